/- Functions of the program, walked: each comes to its plain function. -/
import Derived.Test.YteakhlfapjaodaaGreatDoorTsr
import Derived.Test.YteakhlfapjaodaaGreatDoorExsr
set_option linter.unusedVariables false
set_option linter.unusedSimpArgs false
set_option maxRecDepth 20000
set_option maxHeartbeats 1000000
namespace Go.Cb
open Go.Proofs Go.RowKit
variable {w:World} {Fo:List Ob} {rs:List Rp}

def Au:Option Unit:=
  some ()
theorem Lk(H:Sep w (Fo) rs){r:Unit}(hm:Au=some r) :
    Cf 288 [] w fun v w'=>.agg #[.int .i64 0,.int .i64 13,.int .i64 2,.int .i64 19,.int .i64 18,.int .i64 16,.int .i64 16,.int .i64 20]=v∧Sep w' (Fo) (rs):=by
 unfold Au at hm
 refine ent Tryz.func288 rfl Tryz.ntmps288 rfl rfl fun a E=>sq<|al2 E H rfl FZ fun b w a H E=>nx<|sv2 E rfl (bP E rfl (E.evs rfl) (v:=.agg #[.int .i64 0,.int .i64 13,.int .i64 2,.int .i64 19,.int .i64 18,.int .i64 16,.int .i64 16,.int .i64 20]) (by kernel_rfl)) fun a E=>ss 0 E H rfl Ye rfl fun w H=>nt<|wp_ret<|oB 0 [.int .i64 0,.int .i64 13,.int .i64 2,.int .i64 19,.int .i64 18,.int .i64 16,.int .i64 16,.int .i64 20] E H CO rfl Ye<|have H:=H.drop 0;?_
 cases hm
 exact ⟨rfl,H.reads Y0⟩

def F1(x1:Int)(b:Int):Option Bool:=
  if (decide (x1 ≥ 0))=true then (some (decide (x1 ≤ b))) else (some (false))
theorem Jm{x1 c:Int}(H:Sep w (Fo) rs){r:Bool}(hm:F1 x1 c=some r) :
    Cf 287 [.int .i64 x1,.int .i64 c] w fun v w'=>.bool r=v∧Sep w' (Fo) (rs):=by
 unfold F1 at hm
 refine ent Tryz.func287 rfl Tryz.ntmps287 rfl rfl fun a E=>sp 1 E rfl fun a E=>xp 3 E rfl fun a E=>cs hm (fun b hm=>?_) fun b hm=>?_
 ·refine pk 5 E (kc 7 rfl b) rfl fun a E=>nt<|wp_ret<|o1 E rfl<|?_
  cases hm
  exact ⟨rfl,H.reads Y0⟩
 ·refine pk 5 E (kc 7 rfl b) rfl fun a E=>nt<|wp_ret<|o1 E rfl<|?_
  cases hm
  exact ⟨rfl,H.reads Y0⟩

def oJ(b:ByteArray)(c:Int):Option Int:=
  some (ixB b c)
theorem y8{b:ByteArray}{c:Int}(H:Sep w (Fo) rs){r:Int}(hm:oJ b c=some r) :
    Cf 289 [.string b,.int .u8 c] w fun v w'=>.int .i64 r=v∧Sep w' (Fo) (rs):=by
 unfold oJ at hm
 refine ent Tryz.func289 rfl Tryz.ntmps289 rfl rfl fun a E=>sp 1 E rfl fun a E=>xp 2 E rfl fun a E=>sv2 E rfl (Iz E rfl rfl (CH _ _ _)) fun a E=>pn 1 E rfl fun a E=>wp_ret<|o1 E rfl<|?_
 cases hm
 exact ⟨rfl,H.reads Y0⟩

def iD(b:ByteArray)(c:Int):Option Int:=
  (oJ b c).bind fun d=>some (d)
theorem yE{b:ByteArray}{c:Int}(H:Sep w (Fo) rs){r:Int}(hm:iD b c=some r) :
    Cf 227 [.string b,.int .u8 c] w fun v w'=>.int .i64 r=v∧Sep w' (Fo) (rs):=by
 unfold iD at hm
 refine ent Tryz.func227 rfl Tryz.ntmps227 rfl rfl fun a E=>sp 1 E rfl fun a E=>xp 2 E rfl fun a E=>bd hm fun e d hm=>xk2 E rfl (cf_ 289) (y8 H d) fun w H a E=>pn 1 E rfl fun a E=>wp_ret<|o1 E rfl<|?_
 cases hm
 exact ⟨rfl,H.reads Y0⟩

def iY(b:Bool):Option Bool:=
  if b=true then (some (true)) else (some (false))
def iZ(x1:Int)(b:Bool):Option Bool:=
  if b=true then (some (true)) else (if (decide (57343 < x1))=true then (iY (decide (x1 ≤ 1114111))) else (iY false))
def lU(x1:Int):Option Bool:=
  if (decide (0 ≤ x1))=true then (iZ x1 (decide (x1 < 55296))) else (iZ x1 false)
theorem M6{x1:Int}(H:Sep w (Fo) rs){r:Bool}(hm:lU x1=some r) :
    Cf 356 [.int .i32 x1] w fun v w'=>.bool r=v∧Sep w' (Fo) (rs):=by
 unfold lU at hm
 refine ent Tryz.func356 rfl Tryz.ntmps356 rfl rfl fun a E=>sq<|pn 1 E rfl fun a E=>wp_seq<|wp_block<|aK (fun a w=>∃ f,Jn 17 a w [(0,.int .i32 x1),(3,.bool f)] (Fo) rs (iZ x1 f=some r)) ?_ ?_
 ·refine wp_region_lit<|pr 3 E rfl fun a E=>cs hm (fun b hm=>?_) fun b hm=>?_
  ·exact pk 4 E (kc 6 rfl b) rfl fun a E=>nt<|⟨_,_,E.to rfl,H,Y0,hm⟩
  ·exact pk 4 E (kc 6 rfl b) rfl fun a E=>nt<|⟨_,_,E.to rfl,H,Y0,hm⟩
 ·clear E H hm
  rintro a w ⟨f,i,E,H,c,hm⟩
  unfold iZ at hm
  refine wif E hm rfl (fun hm=>?_) fun hm=>?_
  ·refine sq<|pn 1 E rfl fun a E=>wp_ret<|bF<|aG<|o1 E rfl<|?_
   cases hm
   exact ⟨rfl,H.reads c⟩
  ·refine aK (fun a w=>∃ g,Jn 17 a w [(10,.bool g)] (Fo) rs (iY g=some r)) ?_ ?_
   ·refine wp_region_lit<|pr 3 E rfl fun a E=>cs hm (fun d hm=>?_) fun d hm=>?_
    ·exact pk 4 E (kc 13 rfl d) rfl fun a E=>nt<|⟨_,_,E.to rfl,H,c,hm⟩
    ·exact pk 4 E (kc 13 rfl d) rfl fun a E=>nt<|⟨_,_,E.to rfl,H,c,hm⟩
   ·clear E H hm
    rintro a w ⟨g,j,E,H,e,hm⟩
    unfold iY at hm
    refine wif E hm rfl (fun hm=>?_) fun hm=>?_
    ·refine sq<|pn 1 E rfl fun a E=>wp_ret<|bF<|aG<|o1 E rfl<|?_
     cases hm
     exact ⟨rfl,H.reads e⟩
    ·refine wp_skip<|bH<|aA<|sq<|pn 1 E rfl fun a E=>wp_ret<|o1 E rfl<|?_
     cases hm
     exact ⟨rfl,H.reads e⟩

def rG(c:ByteArray):Nat→(Nat)→Option Int
  | 0,_=>none
  | d+1,b=>
    if decide (b < c.size)=true then (if (((Utf8.decode c b).1:Int) == 65533)=true then (some ((b:Int))) else (rG c d (b+(Utf8.decode c b).2))) else (some ((-1)))
def rH(b:Int)(c:ByteArray):Nat→Option Int
  | 0=>none
  | j+1=>
    if (decide ((IntKind.i64.wrap (((Utf8.encode b).size:Int) - 1)) < (c.size:Int)))=true then ((idx c.data.toList (IntKind.i64.wrap (((Utf8.encode b).size:Int) - 1))).bind fun d=>(idx (Utf8.encode b).data.toList (IntKind.i64.wrap (((Utf8.encode b).size:Int) - 1))).bind fun e=>if ((d.toNat:Int) != (e.toNat:Int))=true then ((ck (0 ≤ (IntKind.i64.wrap ((IntKind.i64.wrap (((Utf8.encode b).size:Int) - 1))+1))∧(IntKind.i64.wrap ((IntKind.i64.wrap (((Utf8.encode b).size:Int) - 1))+1)) ≤ c.size)).bind fun i=>(idx (Utf8.encode b).data.toList (IntKind.i64.wrap (((Utf8.encode b).size:Int) - 1))).bind fun f=>(iD (c.extract (IntKind.i64.wrap ((IntKind.i64.wrap (((Utf8.encode b).size:Int) - 1))+1)).toNat c.size) (f.toNat:Int)).bind fun g=>if (decide (g < 0))=true then (some ((-1))) else none) else none) else (some ((-1)))
def nP(b:ByteArray)(c:Int)(e:Bool):Option Int:=
  if e=true then ((iD b (IntKind.u8.wrap c)).bind fun f=>some (f)) else (if (c == 65533)=true then (rG b (b.size+2) 0) else ((lU c).bind fun d=>if (!d)=true then (some ((-1))) else (rH c b (((b.size:Int) - (IntKind.i64.wrap (((Utf8.encode c).size:Int) - 1)):Int).toNat+1))))
def qO(c:ByteArray)(b:Int):Option Int:=
  if (decide (0 ≤ b))=true then (nP c b (decide (b < 128))) else (nP c b false)
theorem Ax{b:ByteArray}{c:Int}(H:Sep w (Fo) rs){r:Int}(hm:qO b c=some r) :
    Cf 328 [.string b,.int .i32 c] w fun v w'=>.int .i64 r=v∧Sep w' (Fo) (rs):=by
 unfold qO at hm
 refine ent Tryz.func328 rfl Tryz.ntmps328 rfl rfl fun a E=>sq<|pn 1 E rfl fun a E=>wp_block<|aK (fun a w=>∃ m,Jn 187 a w [(0,.string b),(1,.int .i32 c),(160,.bool m)] (Fo) rs (nP b c m=some r)) ?_ ?_
 ·refine wp_region_lit<|pr 3 E rfl fun a E=>cs hm (fun d hm=>?_) fun d hm=>?_
  ·exact pk 4 E (kc 163 rfl d) rfl fun a E=>nt<|⟨_,_,E.to rfl,H,Y0,hm⟩
  ·exact pk 4 E (kc 163 rfl d) rfl fun a E=>nt<|⟨_,_,E.to rfl,H,Y0,hm⟩
 ·clear E H hm
  rintro a w ⟨m,B,E,H,g,hm⟩
  unfold nP at hm
  refine wif E hm rfl (fun hm=>?_) fun hm=>?_
  ·refine sp 3 E rfl fun a E=>bd hm fun J x hm=>xk2 E rfl (cf_ 227) (yE H x) fun w H a E=>pn 1 E rfl fun a E=>wp_ret<|bF<|o1 E rfl<|?_
   cases hm
   exact ⟨rfl,H.reads g⟩
  ·refine sq<|pn 3 E rfl fun a E=>wif E hm rfl (fun hm=>?_) fun hm=>?_
   ·refine wp_seq<|sp 1 E rfl fun a E=>Kj E H (wn rfl) rfl rfl rfl rfl U9 fun y w a H E=>nt<|wp_block<|bD (fun j a w=>∃ n,Jn 187 a w [(175,pt y 0)] (Q1 y (.stringIter b n)::Fo) rs (rG b j n=some r)) (b.size+2) ?_ ?_
    ·exact ⟨_,_,E.to rfl,H,g,hm⟩
    ·clear E H hm
     rintro j a w ⟨n,z,E,H,e,hm⟩
     cases j with
     | zero=>exact (aZ hm rfl).elim
     | succ j=>
      unfold rG at hm
      refine sq<|cs hm (fun f hm=>?_) fun f hm=>?_
      ·refine Kk (i:=0) E H (wn rfl) rfl rfl rfl rfl rfl f fun w a H E=>pn 1 E rfl fun a E=>wp_seq<|wp_cond_true (E.eval rfl)<|wp_skip<|aA<|wp_block<|sq<|pr 4 E rfl fun a E=>nx<|pn 2 E rfl fun a E=>wif E hm rfl (fun hm=>?_) fun hm=>?_
       ·refine sq<|pn 2 E rfl fun a E=>wp_ret<|bF<|aG<|bF<|aG<|bF<|o1 E rfl<|have H:=H.drop 0;?_
        cases hm
        exact ⟨rfl,H.reads e⟩
       ·exact wp_skip<|bH<|aA<|⟨j,Nat.lt_succ_self j,_,_,E.to rfl,H,e,hm⟩
      ·refine Kl (i:=0) E H (wn rfl) rfl rfl rfl rfl rfl f fun a E=>pn 1 E rfl fun a E=>wp_seq<|wp_cond_false (E.eval rfl)<|wp_exit<|aL<|aL<|cH<|aA<|sq<|pn 1 E rfl fun a E=>wp_ret<|bF<|o1 E rfl<|have H:=H.drop 0;?_
       cases hm
       exact ⟨rfl,H.reads e⟩
   ·refine sp 1 E rfl fun a E=>bd hm fun C o hm=>xk2 E rfl (cf_ 356) (M6 H o) fun w H a E=>pn 2 E rfl fun a E=>wif E hm rfl (fun hm=>?_) fun hm=>?_
    ·refine sq<|pn 1 E rfl fun a E=>wp_ret<|bF<|o1 E rfl<|?_
     cases hm
     exact ⟨rfl,H.reads g⟩
    ·refine wp_scope_straight<|sp 1 E rfl fun a E=>sv2 E rfl (Bi E rfl rfl (v:=.string (Utf8.encode c)) (by kernel_rfl)) fun a E=>pr 1 E rfl fun a E=>xp 4 E rfl fun a E=>xp 2 E rfl fun a E=>nx<|pn 1 E rfl fun a E=>wp_seq<|wp_block<|bD (fun l a w=>Jn 187 a w [(0,.string b),(7,.string (Utf8.encode c)),(8,.int .i64 (IntKind.i64.wrap (((Utf8.encode c).size:Int) - 1))),(9,.int .i64 (IntKind.i64.wrap (((Utf8.encode c).size:Int) - 1))),(10,.int .i64 0)] (Fo) rs (rH c b l=some r)) (((b.size:Int) - (IntKind.i64.wrap (((Utf8.encode c).size:Int) - 1)):Int).toNat+1) ?_ ?_
     ·exact ⟨_,E.to rfl,H,g,hm⟩
     ·clear E H hm
      rintro l a w ⟨A,E,H,k,hm⟩
      cases l with
      | zero=>exact (aZ hm rfl).elim
      | succ l=>
       unfold rH at hm
       refine wp_seq<|sq<|pn 4 E rfl fun a E=>wif E hm rfl (fun hm=>?_) fun hm=>?_
       ·refine wp_skip<|aA<|wp_block<|wp_scope_straight<|wp_seq<|wp_seq<|dz [0,0,0,0,0,0,0] [] H fun w W0 hI H=>fn 2 E rfl fun a E=>bd hm fun D p hm=>fv E rfl (fun w hW=>(Bj E rfl rfl rfl U9 p)) fun a E=>fn 2 E rfl fun a E=>bd hm fun F q hm=>fv E rfl (fun w hW=>(Bj E rfl rfl rfl U9 q)) fun a E=>fn 1 E rfl fun a E=>aY<|?_
        clear hI
        refine aA<|wif E hm rfl (fun hm=>?_) fun hm=>?_
        ·refine wp_seq<|dz [0,0,0,0,0,0,0,1,2] [] H fun w W0 hI H=>fn 3 E rfl fun a E=>bk hm fun s hm=>fv E rfl (fun w hW=>(T9 E rfl rfl rfl U9 s)) fun a E=>fn 2 E rfl fun a E=>bd hm fun G t hm=>fv E rfl (fun w hW=>(Bj E rfl rfl rfl U9 t)) fun a E=>bI rfl<|bd hm fun I u hm=>xk2 E rfl (cf_ 227) (yE H u) fun w H a E=>nt<|⟨⟨_,_,H,(bC),(bG)⟩,bL rfl<|pn 1 E rfl fun a E=>aY<|?_⟩
         clear hI
         refine aA<|wp_seq<|sq<|pn 2 E rfl fun a E=>wif E hm rfl (fun hm=>?_) fun hm=>?_
         ·refine sq<|pn 1 E rfl fun a E=>wp_ret<|aG<|aG<|Wb<|bF<|aG<|bF<|aG<|Wb<|bF<|o1 E rfl<|?_
          cases hm
          exact ⟨rfl,H.reads k⟩
         ·exact (aZ hm rfl).elim
        ·exact (aZ hm rfl).elim
       ·refine wp_exit<|aL<|aL<|cH<|aA<|wp_seq<|sq<|pn 1 E rfl fun a E=>wp_ret<|aG<|Wb<|bF<|o1 E rfl<|?_
        cases hm
        exact ⟨rfl,H.reads k⟩

def nQ(b:ByteArray)(c:Int):Option Bool:=
  (qO b c).bind fun d=>some (decide (d ≥ 0))
theorem R2{b:ByteArray}{c:Int}(H:Sep w (Fo) rs){r:Bool}(hm:nQ b c=some r) :
    Cf 292 [.string b,.int .i32 c] w fun v w'=>.bool r=v∧Sep w' (Fo) (rs):=by
 unfold nQ at hm
 refine ent Tryz.func292 rfl Tryz.ntmps292 rfl rfl fun a E=>sp 1 E rfl fun a E=>xp 2 E rfl fun a E=>bd hm fun e d hm=>xk2 E rfl (cf_ 328) (Ax H d) fun w H a E=>pn 2 E rfl fun a E=>wp_ret<|o1 E rfl<|?_
 cases hm
 exact ⟨rfl,H.reads Y0⟩

def xP(x1:Int):Option Bool:=
  (nQ (ByteArray.mk #[97,98,99,100,101,102,103,104,105,106,107,108,109,110,111,112,113,114,115,116,117,118,119,120,121,122,48,49,50,51,52,53,54,55,56,57,45]) x1).bind fun b=>some (!b)
theorem Ll{x1:Int}(H:Sep w (Fo) rs){r:Bool}(hm:xP x1=some r) :
    Cf 291 [.int .i32 x1] w fun v w'=>.bool r=v∧Sep w' (Fo) (rs):=by
 unfold xP at hm
 refine ent Tryz.func291 rfl Tryz.ntmps291 rfl rfl fun a E=>sp 1 E rfl fun a E=>xp 1 E rfl fun a E=>bd hm fun c b hm=>xk2 E rfl (cf_ 292) (R2 H b) fun w H a E=>pn 2 E rfl fun a E=>wp_ret<|o1 E rfl<|?_
 cases hm
 exact ⟨rfl,H.reads Y0⟩

def jS(c:ByteArray)(d:Bool):Nat→(Nat)→Option Int
  | 0,_=>none
  | e+1,b=>
    if decide (b < c.size)=true then ((xP ((Utf8.decode c b).1:Int)).bind fun f=>if (f == d)=true then (some ((b:Int))) else (jS c d e (b+(Utf8.decode c b).2))) else (some ((-1)))
def tV(b:ByteArray)(c:Bool):Option Int:=
  jS b c (b.size+2) 0
theorem Ay{c:ByteArray}{d:Bool}(H:Sep w (Fo) rs){r:Int}(hm:tV c d=some r) :
    Cf 355 [.string c,.func (.func 291) #[] #[],.bool d] w fun v w'=>.int .i64 r=v∧Sep w' (Fo) (rs):=by
 unfold tV at hm
 refine ent Tryz.func355 rfl Tryz.ntmps355 rfl rfl fun a E=>sq<|pn 1 E rfl fun a E=>wp_seq<|sp 1 E rfl fun a E=>Kj E H (wn rfl) rfl rfl rfl rfl U9 fun j w a H E=>nt<|wp_block<|bD (fun b a w=>∃ g,Jn 21 a w [(1,.func (.func 291) #[] #[]),(2,.bool d),(10,pt j 0)] (Q1 j (.stringIter c g)::Fo) rs (jS c d b g=some r)) (c.size+2) ?_ ?_
 ·exact ⟨_,_,E.to rfl,H,Y0,hm⟩
 ·clear E H hm
  rintro b a w ⟨g,m,E,H,e,hm⟩
  cases b with
  | zero=>exact (aZ hm rfl).elim
  | succ b=>
   unfold jS at hm
   refine sq<|cs hm (fun f hm=>?_) fun f hm=>?_
   ·refine Kk (i:=0) E H (wn rfl) rfl rfl rfl rfl rfl f fun w a H E=>pn 1 E rfl fun a E=>wp_seq<|wp_cond_true (E.eval rfl)<|wp_skip<|aA<|wp_block<|sq<|pr 4 E rfl fun a E=>xp 2 E rfl fun a E=>bd hm fun l k hm=>bM E (wn rfl) rfl rfl (bO E rfl rfl rfl ((cf_ 291) _)) (Ll H k)<|?_
    rintro _ w ⟨rfl,H⟩ a E
    refine pr 1 E rfl fun a E=>sv2 E rfl (zG E rfl rfl rfl (v:=.bool (l == d)) (by kernel_rfl)) fun a E=>nt<|wif E hm rfl (fun hm=>?_) fun hm=>?_
    ·refine sq<|pn 2 E rfl fun a E=>wp_ret<|bF<|aG<|bF<|aG<|o1 E rfl<|have H:=H.drop 0;?_
     cases hm
     exact ⟨rfl,H.reads e⟩
    ·exact wp_skip<|bH<|aA<|⟨b,Nat.lt_succ_self b,_,_,E.to rfl,H,e,hm⟩
   ·refine Kl (i:=0) E H (wn rfl) rfl rfl rfl rfl rfl f fun a E=>pn 1 E rfl fun a E=>wp_seq<|wp_cond_false (E.eval rfl)<|wp_exit<|aL<|aL<|cH<|aA<|sq<|pn 1 E rfl fun a E=>wp_ret<|o1 E rfl<|have H:=H.drop 0;?_
    cases hm
    exact ⟨rfl,H.reads e⟩

def tW(b:ByteArray):Option Int:=
  (tV b true).bind fun c=>some (c)
theorem Az{b:ByteArray}(H:Sep w (Fo) rs){r:Int}(hm:tW b=some r) :
    Cf 327 [.string b,.func (.func 291) #[] #[]] w fun v w'=>.int .i64 r=v∧Sep w' (Fo) (rs):=by
 unfold tW at hm
 refine ent Tryz.func327 rfl Tryz.ntmps327 rfl rfl fun a E=>sp 1 E rfl fun a E=>xp 2 E rfl fun a E=>bd hm fun d c hm=>xk2 E rfl (cf_ 355) (Ay H c) fun w H a E=>pn 1 E rfl fun a E=>wp_ret<|o1 E rfl<|?_
 cases hm
 exact ⟨rfl,H.reads Y0⟩

def rI(b:ByteArray):Option Bool:=
  (tW b).bind fun c=>some (decide (c ≥ 0))
theorem R3{b:ByteArray}(H:Sep w (Fo) rs){r:Bool}(hm:rI b=some r) :
    Cf 290 [.string b,.func (.func 291) #[] #[]] w fun v w'=>.bool r=v∧Sep w' (Fo) (rs):=by
 unfold rI at hm
 refine ent Tryz.func290 rfl Tryz.ntmps290 rfl rfl fun a E=>sp 1 E rfl fun a E=>xp 2 E rfl fun a E=>bd hm fun d c hm=>xk2 E rfl (cf_ 327) (Az H c) fun w H a E=>pn 2 E rfl fun a E=>wp_ret<|o1 E rfl<|?_
 cases hm
 exact ⟨rfl,H.reads Y0⟩

def vE(b:ByteArray):Option Bool:=
  (rI b).bind fun c=>if (!(sEq b (ByteArray.mk #[])))=true then (if (decide ((b.size:Int) ≤ 12))=true then (some (!c)) else (some (false))) else (some (false))
theorem R4{d:ByteArray}(H:Sep w (Fo) rs){r:Bool}(hm:vE d=some r) :
    Cf 228 [.string d] w fun v w'=>.bool r=v∧Sep w' (Fo) (rs):=by
 unfold vE at hm
 refine ent Tryz.func228 rfl Tryz.ntmps228 rfl rfl fun a E=>sp 1 E rfl fun a E=>xp 1 E rfl fun a E=>bd hm fun f e hm=>xk2 E rfl (cf_ 290) (R3 H e) fun w H a E=>pr 1 E rfl fun a E=>nx<|pr 3 E rfl fun a E=>cs hm (fun b hm=>?_) fun b hm=>?_
 ·refine pk 5 E (kc 8 rfl b) rfl fun a E=>cs hm (fun c hm=>?_) fun c hm=>?_
  ·refine pk 4 E (kc 13 rfl c) rfl fun a E=>nt<|wp_ret<|o1 E rfl<|?_
   cases hm
   exact ⟨rfl,H.reads Y0⟩
  ·refine pk 4 E (kc 13 rfl c) rfl fun a E=>nt<|wp_ret<|o1 E rfl<|?_
   cases hm
   exact ⟨rfl,H.reads Y0⟩
 ·refine pk 9 E (kc 8 rfl b) rfl fun a E=>nt<|wp_ret<|o1 E rfl<|?_
  cases hm
  exact ⟨rfl,H.reads Y0⟩

def gE(c:ByteArray)(b:ByteArray):Option Bool:=
  if (decide ((c.size:Int) ≥ (b.size:Int)))=true then ((ck (0 ≤ (b.size:Int)∧(b.size:Int) ≤ c.size)).bind fun d=>some (sEq (c.extract 0 (b.size:Int).toNat) b)) else (some (false))
theorem y9{c d:ByteArray}(H:Sep w (Fo) rs){r:Bool}(hm:gE c d=some r) :
    Cf 284 [.string c,.string d] w fun v w'=>.bool r=v∧Sep w' (Fo) (rs):=by
 unfold gE at hm
 refine ent Tryz.func284 rfl Tryz.ntmps284 rfl rfl fun a E=>sp 1 E rfl fun a E=>xp 6 E rfl fun a E=>cs hm (fun b hm=>?_) fun b hm=>?_
 ·refine pk 3 E (kc 10 rfl b) rfl fun a E=>bk hm fun e hm=>gv 10 E b rfl (Bk E rfl rfl rfl U9 e) fun a E=>pk 4 E (kc 10 rfl b) rfl fun a E=>nt<|wp_ret<|o1 E rfl<|?_
  cases hm
  exact ⟨rfl,H.reads Y0⟩
 ·refine pk 8 E (kc 10 rfl b) rfl fun a E=>nt<|wp_ret<|o1 E rfl<|?_
  cases hm
  exact ⟨rfl,H.reads Y0⟩

def gF(b:ByteArray)(c:ByteArray):Option yV:=
  (gE b c).bind fun d=>if (!d)=true then (some (b,false)) else ((ck (0 ≤ (c.size:Int)∧(c.size:Int) ≤ b.size)).bind fun e=>some (b.extract (c.size:Int).toNat b.size,true))
theorem z6{b c:ByteArray}(H:Sep w (Fo) rs){r:ByteArray×Bool}(hm:gF b c=some r) :
    Cf 217 [.string b,.string c] w fun v w'=>.tuple #[.string r.1,.bool r.2]=v∧Sep w' (Fo) (rs):=by
 unfold gF at hm
 refine ent Tryz.func217 rfl Tryz.ntmps217 rfl rfl fun a E=>sq<|pn 2 E rfl fun a E=>wp_seq<|sp 2 E rfl fun a E=>bd hm fun f d hm=>xk2 E rfl (cf_ 284) (y9 H d) fun w H a E=>pn 1 E rfl fun a E=>wif E hm rfl (fun hm=>?_) fun hm=>?_
 ·refine sq<|pn 3 E rfl fun a E=>wp_ret<|aG<|fW E rfl rfl rfl<|?_
  cases hm
  exact ⟨rfl,H.reads Y0⟩
 ·refine wp_skip<|aA<|sp 3 E rfl fun a E=>bk hm fun e hm=>sv2 E rfl (T9 E rfl rfl rfl U9 e) fun a E=>pn 2 E rfl fun a E=>wp_ret<|fW E rfl rfl rfl<|?_
  cases hm
  exact ⟨rfl,H.reads Y0⟩

def iE(c:ByteArray)(d:ByteArray):Option yV:=
  (gF c d).bind fun b=>some (b.1,b.2)
theorem D8{b c:ByteArray}(H:Sep w (Fo) rs){r:ByteArray×Bool}(hm:iE b c=some r) :
    Cf 135 [.string b,.string c] w fun v w'=>.tuple #[.string r.1,.bool r.2]=v∧Sep w' (Fo) (rs):=by
 unfold iE at hm
 refine ent Tryz.func135 rfl Tryz.ntmps135 rfl rfl fun a E=>sp 2 E rfl fun a E=>xp 2 E rfl fun a E=>bd hm fun e d hm=>xk2 E rfl (cf_ 217) (z6 H d) fun w H a E=>pn 4 E rfl fun a E=>wp_ret<|fW E rfl rfl rfl<|?_
 cases hm
 exact ⟨rfl,H.reads Y0⟩

def pN:Option yW:=
  some ([],false)
def sE(rec_1:ByteArray→cR→Option yW)(c:ByteArray×Bool)(d:cR)(b:Int):Option yW:=
  (ck (0 ≤ b∧b ≤ c.1.size)).bind fun f=>(vE (c.1.extract 0 b.toNat)).bind fun e=>if (!e)=true then (pN) else ((ck (0 ≤ b∧b ≤ c.1.size)).bind fun g=>(ck (d.length+([c.1.extract 0 b.toNat]:List ByteArray).length ≤ LIM)).bind fun i=>(ck (0 ≤ b∧b ≤ c.1.size)).bind fun j=>rec_1 (c.1.extract b.toNat c.1.size) (d ++ ([c.1.extract 0 b.toNat]:List ByteArray)))
def mY:Nat→ByteArray→cR→Option yW
  | 0,_,_=>none
  | e+1,f,b=>
    if (!(sEq f (ByteArray.mk #[])))=true then ((iE f (ByteArray.mk #[47])).bind fun c=>if (!c.2)=true then (pN) else (if ((b.length:Int) == 6)=true then (pN) else ((iD c.1 47).bind fun d=>if (decide (d < 0))=true then (sE (mY e) c b (c.1.size:Int)) else (sE (mY e) c b d)))) else (if (decide ((b.length:Int) > 0))=true then (some (b,true)) else (some ([],false)))
def wB(b:ByteArray):Option yW:=
  if (sEq b (ByteArray.mk #[47]))=true then (some ([],true)) else (mY (b.size+2) b [])
theorem Ca{n:ByteArray}(H:Sep w (Fo) rs){r:cR×Bool}(hm:wB n=some r) :
    Cf 144 [.string n] w fun v w'=>∃ A,.tuple #[A,.bool r.2]=v∧Sep w' (Row 9 kS A r.1::Fo) (rs):=by
 unfold wB at hm
 refine ent Tryz.func144 rfl Tryz.ntmps144 rfl rfl fun a E=>sq<|pn 2 E rfl fun a E=>wp_scope_jumps 0 (fun a w=>Jn 48 a w [] (Fo) rs (pN=some r)) (fun _ _=>0) rfl ?_ ?_
 ·refine sq<|pn 1 E rfl fun a E=>wp_seq<|sq<|pn 2 E rfl fun a E=>wif E hm rfl (fun hm=>?_) fun hm=>?_
  ·refine sq<|pn 2 E rfl fun a E=>wp_ret<|aG<|Df<|fW E rfl rfl rfl<|have H:=H.nilRow 9 kS;?_
   cases hm
   exact ⟨_,rfl,H.reads Y0⟩
  ·refine wp_skip<|aA<|wp_seq<|wp_block<|bD (fun g a w=>∃ k o l,Jn 48 a w [(0,.string o),(4,k)] (Row 9 kS k l::Fo) rs (mY g o l=some r)) (n.size+2) ?_ ?_
   ·exact have H:=H.nilRow 9 kS;X4 ⟨E.to rfl,H,Y0,hm⟩
   ·clear E H hm
    rintro g a w ⟨k,o,l,D,E,H,f,hm⟩
    cases g with
    | zero=>exact (aZ hm rfl).elim
    | succ g=>
     unfold mY at hm
     refine wp_seq<|sq<|pn 2 E rfl fun a E=>wif E hm rfl (fun hm=>?_) fun hm=>?_
     ·refine wp_skip<|aA<|wp_block<|sp 1 E rfl fun a E=>bd hm fun j p hm=>xk2 E rfl (cf_ 135) (D8 H p) fun w H a E=>pn 5 E rfl fun a E=>wp_seq<|sp 3 E rfl fun a E=>cs hm (fun b hm=>?_) fun b hm=>?_
      ·exact pk 4 E (kc 19 rfl b) rfl fun a E=>nt<|wp_cond_true (E.eval rfl)<|wp_goto<|zX<|T8<|zX<|T8<|zX<|Ml<|have H:=H.drop 0;⟨_,E.nil,H,f,hm⟩
      ·refine pk 1 E (kc 19 rfl b) rfl fun a E=>gv 19 E b rfl (iJ (i:=0) E H rfl rfl rfl U33) fun a E=>pk 2 E (kc 19 rfl b) rfl fun a E=>nt<|wif E hm rfl (fun hm=>?_) fun hm=>?_
       ·exact wp_goto<|zX<|T8<|zX<|T8<|zX<|Ml<|have H:=H.drop 0;⟨_,E.nil,H,f,hm⟩
       ·refine wp_skip<|aA<|sp 1 E rfl fun a E=>bd hm fun F q hm=>xk2 E rfl (cf_ 227) (yE H q) fun w H a E=>pn 1 E rfl fun a E=>aK (fun a w=>∃ c,Jn 48 a w [(4,k),(5,.string j.1),(7,.int .i64 c)] (Row 9 kS k l::Fo) rs (sE (mY g) j l c=some r)) ?_ ?_
        ·refine sq<|pn 2 E rfl fun a E=>wif E hm rfl (fun hm=>?_) fun hm=>?_
         ·exact wp_region_lit<|pn 3 E rfl fun a E=>⟨_,_,E.to rfl,H,f,hm⟩
         ·exact wp_skip<|aA<|⟨_,_,E.to rfl,H,f,hm⟩
        ·clear E H hm
         rintro a w ⟨c,C,E,H,m,hm⟩
         unfold sE at hm
         refine wp_seq<|sp 2 E rfl fun a E=>bk hm fun s hm=>sv2 E rfl (Bk E rfl rfl rfl U9 s) fun a E=>bd hm fun G t hm=>xk2 E rfl (cf_ 228) (R4 H t) fun w H a E=>pn 1 E rfl fun a E=>wif E hm rfl (fun hm=>?_) fun hm=>?_
         ·exact wp_goto<|zX<|T8<|zX<|T8<|zX<|Ml<|have H:=H.drop 0;⟨_,E.nil,H,m,hm⟩
         ·exact wp_skip<|aA<|sp 3 E rfl fun a E=>bk hm fun u hm=>sv2 E rfl (Bk E rfl rfl rfl U9 u) fun a E=>iV (e:=9) (d:=kS) (cs:=[.string (j.1.extract 0 c.toNat)]) (xs:=[j.1.extract 0 c.toNat]) E H (wn rfl) rfl rfl rfl (E.evs rfl) (by kernel_rfl) rfl (fun ok hr=>(Rows.single (d:=kS) (cs:=[.string (j.1.extract 0 c.toNat)]) (x:=j.1.extract 0 c.toNat) rfl)) fun I w a H E=>bk hm fun y hm=>cO (i:=0) E H (wn rfl) rfl rfl rfl rfl rfl rfl (fA m0) U33 Z5 rfl y rfl fun J w a H E=>pn 1 E rfl fun a E=>wp_region_lit<|pr 2 E rfl fun a E=>bk hm fun z hm=>sv2 E rfl (T9 E rfl rfl rfl U9 z) fun a E=>pr 1 E rfl fun a E=>wpList_nil<|bH<|aA<|⟨g,Nat.lt_succ_self g,X4 ⟨E.to rfl,H,(Y1 m),hm⟩⟩
     ·refine wp_exit<|aL<|aL<|cH<|aA<|wp_seq<|sp 1 E rfl fun a E=>sv2 E rfl (iJ (i:=0) E H rfl rfl rfl U33) fun a E=>pn 1 E rfl fun a E=>wif E hm rfl (fun hm=>?_) fun hm=>?_
      ·refine sq<|pn 3 E rfl fun a E=>wp_ret<|aG<|Df<|fW E rfl rfl rfl<|?_
       cases hm
       exact ⟨_,rfl,H.reads f⟩
      ·refine wp_skip<|aA<|wp_seq<|wp_label<|aA<|sq<|pn 2 E rfl fun a E=>wp_ret<|Df<|fW E rfl rfl rfl<|have H:=H.nilRow 9 kS;have H:=H.drop 1;?_
       cases hm
       exact ⟨_,rfl,H.reads f⟩
 ·clear E H hm
  rintro a w ⟨K,E,H,B,hm⟩
  unfold pN at hm
  refine wp_seq<|wp_skip<|aA<|sq<|pn 2 E rfl fun a E=>wp_ret<|Df<|fW E rfl rfl rfl<|have H:=H.nilRow 9 kS;?_
  cases hm
  exact ⟨_,rfl,H.reads B⟩

def dX(b:ByteArray):Option Bool:=
  (wB b).bind fun c=>some (c.2)
theorem iL{b:ByteArray}(H:Sep w (Fo) rs){r:Bool}(hm:dX b=some r) :
    Cf 83 [.string b] w fun v w'=>.bool r=v∧Sep w' (Fo) (rs):=by
 unfold dX at hm
 refine ent Tryz.func83 rfl Tryz.ntmps83 rfl rfl fun a E=>sp 1 E rfl fun a E=>xp 1 E rfl fun a E=>bd hm fun d c hm=>xc2 E rfl (cf_ 144) (Ca H c)<|?_
 rintro _ w ⟨e,rfl,H⟩ a E
 refine pr 5 E rfl fun a E=>nx<|pn 2 E rfl fun a E=>wp_ret<|o1 E rfl<|have H:=H.drop 0;?_
 cases hm
 exact ⟨rfl,H.reads Y0⟩

def a8(x1:dH)(b:Int)(c:Bool):Option Bool:=
  if c=true then (Au.bind fun e=>(idx ([0,13,2,19,18,16,16,20]:List Int) x1.Kind).bind fun d=>if ((Iw .i64 b d) == 0)=true then (if (x1.Kind != 7)=true then (some (true)) else (some (decide (x1.Owner > 0)))) else (some (false))) else (some (false))
def p3(x1:dH)(b:Int):Option Bool:=
  if (decide (x1.Version ≥ (-1)))=true then (a8 x1 b (decide (x1.Version ≤ 281474976710656))) else (a8 x1 b false)
def p4(x1:dH)(b:Int):Option Bool:=
  if (sEq x1.Path (ByteArray.mk #[47]))=true then (p3 x1 (ior .i64 b 16)) else (p3 x1 b)
def p5(x1:dH)(b:Int):Option Bool:=
  if x1.Turns=true then (p4 x1 (ior .i64 b 8)) else (p4 x1 b)
def p6(x1:dH)(b:Int):Option Bool:=
  if (x1.Owner != 0)=true then (p5 x1 (ior .i64 b 4)) else (p5 x1 b)
def p7(x1:dH)(b:Int):Option Bool:=
  if (x1.Version != 0)=true then (p6 x1 (ior .i64 b 2)) else (p6 x1 b)
def qY(x1:dH)(b:Bool):Option Bool:=
  if b=true then (some (false)) else (if (!(sEq x1.Data (ByteArray.mk #[])))=true then (p7 x1 (ior .i64 0 1)) else (p7 x1 0))
def G5(x1:dH):Option Bool:=
  if (decide (x1.Kind < 1))=true then (qY x1 true) else (if (decide (x1.Kind > 7))=true then (qY x1 true) else ((dX x1.Path).bind fun b=>if (!b)=true then (qY x1 true) else (if (decide ((x1.Data.size:Int) > 256))=true then (qY x1 true) else ((F1 x1.Owner 1099511627776).bind fun c=>qY x1 (!c)))))
theorem Ev{x1:dH}(H:Sep w (Fo) rs){r:Bool}(hm:G5 x1=some r) :
    Cf 222 [.agg (pM x1).toArray] w fun v w'=>.bool r=v∧Sep w' (Fo) (rs):=by
 unfold G5 at hm
 refine ent Tryz.func222 rfl Tryz.ntmps222 rfl rfl fun a E=>sq<|bx E H rfl fun e w a H E=>pn 1 E rfl fun a E=>wp_seq<|aK (fun a w=>∃ A,Jn 83 a w [(1,pt e 0),(30,.bool A)] (Blk e 134 (pM x1)::Fo) rs (qY x1 A=some r)) ?_ ?_
 ·refine wp_region_lit<|pr 1 E rfl fun a E=>lb2 E H 0 U3 rfl fun a E=>pr 2 E rfl fun a E=>cs hm (fun i hm=>?_) fun i hm=>?_
  ·exact pk 22 E (kc 8 rfl i) rfl fun a E=>nt<|⟨_,_,E.to rfl,H,Y0,hm⟩
  ·refine pk 1 E (kc 8 rfl i) rfl fun a E=>gl 8 E H 0 i U3 rfl fun a E=>pk 3 E (kc 8 rfl i) rfl fun a E=>cs hm (fun f hm=>?_) fun f hm=>?_
   ·exact pk 17 E (kc 13 rfl f) rfl fun a E=>nt<|⟨_,_,E.to rfl,H,Y0,hm⟩
   ·refine pk 1 E (kc 13 rfl f) rfl fun a E=>gl 13 E H 0 f U9 rfl fun a E=>bd hm fun O B hm=>gc 13 E f rfl (cf_ 83) (iL H B)<|?_
    rintro _ w ⟨rfl,H⟩ a E
    refine pk 3 E (kc 13 rfl f) rfl fun a E=>cs hm (fun j hm=>?_) fun j hm=>?_
    ·exact pk 11 E (kc 19 rfl j) rfl fun a E=>nt<|⟨_,_,E.to rfl,H,Y0,hm⟩
    ·refine pk 1 E (kc 19 rfl j) rfl fun a E=>gl 19 E H 0 j U9 rfl fun a E=>pk 4 E (kc 19 rfl j) rfl fun a E=>cs hm (fun g hm=>?_) fun g hm=>?_
     ·exact pk 5 E (kc 25 rfl g) rfl fun a E=>nt<|⟨_,_,E.to rfl,H,Y0,hm⟩
     ·refine pk 1 E (kc 25 rfl g) rfl fun a E=>gl 25 E H 0 g U2 rfl fun a E=>bd hm fun P C hm=>gc 25 E g rfl (cf_ 287) (Jm H C)<|?_
      rintro _ w ⟨rfl,H⟩ a E
      exact pk 2 E (kc 25 rfl g) rfl fun a E=>nt<|⟨_,_,E.to rfl,H,Y0,hm⟩
 ·clear E H hm
  rintro a w ⟨A,Q,E,H,o,hm⟩
  unfold qY at hm
  refine wif E hm rfl (fun hm=>?_) fun hm=>?_
  ·refine sq<|pn 1 E rfl fun a E=>wp_ret<|aG<|o1 E rfl<|have H:=H.drop 0;?_
   cases hm
   exact ⟨rfl,H.reads o⟩
  ·refine wp_skip<|aA<|sq<|pn 1 E rfl fun a E=>aK (fun a w=>∃ D,Jn 83 a w [(1,pt e 0),(3,.int .i64 D)] (Blk e 134 (pM x1)::Fo) rs (p7 x1 D=some r)) ?_ ?_
   ·refine sp 1 E rfl fun a E=>lb2 E H 0 U9 rfl fun a E=>pn 1 E rfl fun a E=>wif E hm rfl (fun hm=>?_) fun hm=>?_
    ·exact wp_region_lit<|pn 3 E rfl fun a E=>⟨_,_,E.to rfl,H,o,hm⟩
    ·exact wp_skip<|aA<|⟨_,_,E.to rfl,H,o,hm⟩
   ·clear E H hm
    rintro a w ⟨D,R,E,H,z,hm⟩
    unfold p7 at hm
    refine aK (fun a w=>∃ F,Jn 83 a w [(1,pt e 0),(3,.int .i64 F)] (Blk e 134 (pM x1)::Fo) rs (p6 x1 F=some r)) ?_ ?_
    ·refine sp 1 E rfl fun a E=>lb2 E H 0 U2 rfl fun a E=>pn 1 E rfl fun a E=>wif E hm rfl (fun hm=>?_) fun hm=>?_
     ·exact wp_region_lit<|pn 3 E rfl fun a E=>⟨_,_,E.to rfl,H,z,hm⟩
     ·exact wp_skip<|aA<|⟨_,_,E.to rfl,H,z,hm⟩
    ·clear E H hm
     rintro a w ⟨F,J,E,H,p,hm⟩
     unfold p6 at hm
     refine aK (fun a w=>∃ q,Jn 83 a w [(1,pt e 0),(3,.int .i64 q)] (Blk e 134 (pM x1)::Fo) rs (p5 x1 q=some r)) ?_ ?_
     ·refine sp 1 E rfl fun a E=>lb2 E H 0 U2 rfl fun a E=>pn 1 E rfl fun a E=>wif E hm rfl (fun hm=>?_) fun hm=>?_
      ·exact wp_region_lit<|pn 3 E rfl fun a E=>⟨_,_,E.to rfl,H,p,hm⟩
      ·exact wp_skip<|aA<|⟨_,_,E.to rfl,H,p,hm⟩
     ·clear E H hm
      rintro a w ⟨q,K,E,H,s,hm⟩
      unfold p5 at hm
      refine aK (fun a w=>∃ t,Jn 83 a w [(1,pt e 0),(3,.int .i64 t)] (Blk e 134 (pM x1)::Fo) rs (p4 x1 t=some r)) ?_ ?_
      ·refine sp 1 E rfl fun a E=>lb2 E H 0 U4 rfl fun a E=>nt<|wif E hm rfl (fun hm=>?_) fun hm=>?_
       ·exact wp_region_lit<|pn 3 E rfl fun a E=>⟨_,_,E.to rfl,H,s,hm⟩
       ·exact wp_skip<|aA<|⟨_,_,E.to rfl,H,s,hm⟩
      ·clear E H hm
       rintro a w ⟨t,L,E,H,u,hm⟩
       unfold p4 at hm
       refine aK (fun a w=>∃ n,Jn 83 a w [(1,pt e 0),(3,.int .i64 n)] (Blk e 134 (pM x1)::Fo) rs (p3 x1 n=some r)) ?_ ?_
       ·refine sp 1 E rfl fun a E=>lb2 E H 0 U9 rfl fun a E=>pn 1 E rfl fun a E=>wif E hm rfl (fun hm=>?_) fun hm=>?_
        ·exact wp_region_lit<|pn 3 E rfl fun a E=>⟨_,_,E.to rfl,H,u,hm⟩
        ·exact wp_skip<|aA<|⟨_,_,E.to rfl,H,u,hm⟩
       ·clear E H hm
        rintro a w ⟨n,M,E,H,x,hm⟩
        unfold p3 at hm
        refine aK (fun a w=>∃ y,Jn 83 a w [(1,pt e 0),(3,.int .i64 n),(4,.bool y)] (Blk e 134 (pM x1)::Fo) rs (a8 x1 n y=some r)) ?_ ?_
        ·refine wp_region_lit<|pr 1 E rfl fun a E=>lb2 E H 0 U2 rfl fun a E=>pr 2 E rfl fun a E=>cs hm (fun k hm=>?_) fun k hm=>?_
         ·exact pk 1 E (kc 58 rfl k) rfl fun a E=>gl 58 E H 0 k U2 rfl fun a E=>pk 3 E (kc 58 rfl k) rfl fun a E=>nt<|⟨_,_,E.to rfl,H,x,hm⟩
         ·exact pk 5 E (kc 58 rfl k) rfl fun a E=>nt<|⟨_,_,E.to rfl,H,x,hm⟩
        ·clear E H hm
         rintro a w ⟨y,N,E,H,m,hm⟩
         unfold a8 at hm
         refine wp_seq<|dw [(0,0),(1,0),(2,0),(4,0),(5,0),(3,1),(6,0),(7,0),(8,0),(9,0),(10,0),(11,0),(12,0),(13,0),(14,0),(15,0),(16,0),(17,0),(18,0),(19,0),(20,2)] [0] [] H (by kernel_rfl) (fun _ _ _ h=>False.elim h.2) fun w W0 hI H=>fn 2 E rfl fun a E=>cs hm (fun b hm=>?_) fun b hm=>?_
         ·refine fk 2 E (kc 64 rfl b) rfl fun a E=>fb E rfl (ws' (d:=64) E rfl rfl rfl rfl b) rfl rfl rfl rfl m0 rfl U3 rfl fun a E=>bI rfl<|bd hm fun S G hm=>gc 64 E b rfl (cf_ 288) (Lk H G)<|?_
          rintro _ w ⟨rfl,H⟩ a E
          refine nt<|⟨sx H [0] rfl,bd hm fun T I hm=>cZ E rfl (ws' (d:=64) E rfl rfl rfl rfl b) rfl rfl (fun w hW=>(Ys (vs:=[.int .i64 0,.int .i64 13,.int .i64 2,.int .i64 19,.int .i64 18,.int .i64 16,.int .i64 16,.int .i64 20]) E rfl rfl rfl CO rfl sz3 U3 rfl (Yt (Value.int .i64) (xs:=([0,13,2,19,18,16,16,20]:List Int)) I))) fun a E=>fk 4 E (kc 64 rfl b) rfl fun a E=>cs hm (fun c hm=>?_) fun c hm=>?_⟩
          ·refine fk 1 E (kc 73 rfl c) rfl fun a E=>fb E rfl (ws' (d:=73) E rfl rfl rfl rfl c) rfl rfl rfl rfl m0 rfl U3 rfl fun a E=>fk 2 E (kc 73 rfl c) rfl fun a E=>cs hm (fun l hm=>?_) fun l hm=>?_
           ·refine fk 5 E (kc' (kc 77 rfl l) 73 rfl c) rfl fun a E=>bL rfl<|pn 1 E rfl fun a E=>aY<|?_
            clear hI
            refine aA<|wp_ret<|o1 E rfl<|have H:=H.drop 0;?_
            cases hm
            exact ⟨rfl,H.reads m⟩
           ·refine fk 1 E (kc 77 rfl l) rfl fun a E=>fb E rfl (ws' (d:=77) E rfl rfl rfl rfl l) rfl rfl rfl rfl m0 rfl U2 rfl fun a E=>fk 3 E (kc' (kc 77 rfl l) 73 rfl c) rfl fun a E=>bL rfl<|pn 1 E rfl fun a E=>aY<|?_
            clear hI
            refine aA<|wp_ret<|o1 E rfl<|have H:=H.drop 0;?_
            cases hm
            exact ⟨rfl,H.reads m⟩
          ·refine fk 9 E (kc 73 rfl c) rfl fun a E=>bL rfl<|pn 1 E rfl fun a E=>aY<|?_
           clear hI
           refine aA<|wp_ret<|o1 E rfl<|have H:=H.drop 0;?_
           cases hm
           exact ⟨rfl,H.reads m⟩
         ·refine fk 3 E (kc 64 rfl b) rfl fun a E=>bI rfl<|pk 1 E (kc 64 rfl b) rfl fun a E=>nt<|⟨sx H [0] rfl,fk 14 E (kc 64 rfl b) rfl fun a E=>bL rfl<|pn 1 E rfl fun a E=>aY<|?_⟩
          clear hI
          refine aA<|wp_ret<|o1 E rfl<|have H:=H.drop 0;?_
          cases hm
          exact ⟨rfl,H.reads m⟩

def J1(x1:dH):Option Bool:=
  (G5 x1).bind fun b=>some (!b)
theorem Lm{x1:dH}(H:Sep w (Fo) rs){r:Bool}(hm:J1 x1=some r) :
    Cf 221 [.agg (pM x1).toArray] w fun v w'=>.bool r=v∧Sep w' (Fo) (rs):=by
 unfold J1 at hm
 refine ent Tryz.func221 rfl Tryz.ntmps221 rfl rfl fun a E=>sq<|bx E H rfl fun c w a H E=>pr 1 E rfl fun a E=>nx<|ln 0 (pM x1) E H Nj rfl P4 fun a E=>bd hm fun d b hm=>xk2 E rfl (cf_ 222) (Ev H b) fun w H a E=>pr 2 E rfl fun a E=>nt<|wp_ret<|o1 E rfl<|have H:=H.drop 0;?_
 cases hm
 exact ⟨rfl,H.reads Y0⟩

def iB(c:List dH):Nat→Int→Option Int
  | 0,_=>none
  | e+1,b=>
    if (decide (b < (c.length:Int)))=true then ((idx c b).bind fun f=>(J1 f).bind fun d=>if d=true then (some (b)) else (iB c e (IntKind.i64.wrap (b+1)))) else (some ((-1)))
def oK(b:List dH):Option Int:=
  iB b (((b.length:Int) - 0:Int).toNat+1) 0
theorem z7{f:Value}{d:List dH}(H:Sep w (Fo) rs)(e:rSl y6 f d ∈ rs){r:Int}(hm:oK d=some r) :
    Cf 286 [f,.func (.func 221) #[] #[]] w fun v w'=>.int .i64 r=v∧Sep w' (Fo) (rs):=by
 unfold oK at hm
 refine ent Tryz.func286 rfl Tryz.ntmps286 rfl rfl fun a E=>sq<|pn 1 E rfl fun a E=>wp_seq<|sp 1 E rfl fun a E=>lS E H e Jk rfl fun a E=>pr 1 E rfl fun a E=>nt<|wp_block<|bD (fun c a w=>∃ g,Jn 19 a w [(0,f),(1,.func (.func 221) #[] #[]),(7,.int .i64 (d.length:Int)),(8,.int .i64 g)] (Fo) rs (iB d c g=some r)) (((d.length:Int) - 0:Int).toNat+1) ?_ ?_
 ·exact ⟨_,_,E.to rfl,H,Y0,hm⟩
 ·clear E H hm
  rintro c a w ⟨g,k,E,H,b,hm⟩
  cases c with
  | zero=>exact (aZ hm rfl).elim
  | succ c=>
   unfold iB at hm
   refine sq<|pn 1 E rfl fun a E=>wp_seq<|wif E hm rfl (fun hm=>?_) fun hm=>?_
   ·refine wp_skip<|aA<|wp_seq<|wp_block<|sp 2 E rfl fun a E=>xp 3 E rfl fun a E=>bd hm fun m j hm=>cN E H (wn rfl) rfl rfl rfl rfl rfl (b _ e) Jk P4 j fun q9 a H E=>ldf As E H rfl rfl rfl rfl rfl m0 Nj rfl P4 fun a E=>bd hm fun l i hm=>bM E (wn rfl) rfl rfl (bO E rfl rfl rfl ((cf_ 221) _)) (Lm H i)<|?_
    rintro _ w ⟨rfl,H⟩ a E
    refine nt<|wif E hm rfl (fun hm=>?_) fun hm=>?_
    ·refine sq<|pn 2 E rfl fun a E=>wp_ret<|bF<|aG<|aG<|bF<|aG<|o1 E rfl<|?_
     cases hm
     exact ⟨rfl,H.reads (Y1 b)⟩
    ·exact wp_skip<|bH<|aA<|wp_region_lit<|pn 2 E rfl fun a E=>⟨c,Nat.lt_succ_self c,_,_,E.to rfl,H,(Y1 b),hm⟩
   ·refine wp_exit<|aL<|aL<|cH<|aA<|sq<|pn 1 E rfl fun a E=>wp_ret<|o1 E rfl<|?_
    cases hm
    exact ⟨rfl,H.reads b⟩

def mI(b:List dH):Option Bool:=
  (oK b).bind fun c=>some (decide (c ≥ 0))
theorem p8{b:Value}{c:List dH}(H:Sep w (Fo) rs)(d:rSl y6 b c ∈ rs){r:Bool}(hm:mI c=some r) :
    Cf 220 [b,.func (.func 221) #[] #[]] w fun v w'=>.bool r=v∧Sep w' (Fo) (rs):=by
 unfold mI at hm
 refine ent Tryz.func220 rfl Tryz.ntmps220 rfl rfl fun a E=>sp 1 E rfl fun a E=>xp 2 E rfl fun a E=>bd hm fun f e hm=>xk2 E rfl (cf_ 286) (z7 H d e) fun w H a E=>pn 2 E rfl fun a E=>wp_ret<|o1 E rfl<|?_
 cases hm
 exact ⟨rfl,H.reads Y0⟩

def R5(b:List dH):Option Bool:=
  (mI b).bind fun c=>if (decide ((b.length:Int) > 0))=true then (if (decide ((b.length:Int) ≤ 8))=true then (some (!c)) else (some (false))) else (some (false))
theorem Pp{e:Value}{f:List dH}(H:Sep w (Fo) rs)(c:rSl y6 e f ∈ rs){r:Bool}(hm:R5 f=some r) :
    Cf 140 [e] w fun v w'=>.bool r=v∧Sep w' (Fo) (rs):=by
 unfold R5 at hm
 refine ent Tryz.func140 rfl Tryz.ntmps140 rfl rfl fun a E=>sp 1 E rfl fun a E=>xp 1 E rfl fun a E=>bd hm fun i g hm=>xk2 E rfl (cf_ 220) (p8 H c g) fun w H a E=>pr 1 E rfl fun a E=>nx<|pr 1 E rfl fun a E=>lS E H c Jk rfl fun a E=>pr 2 E rfl fun a E=>cs hm (fun b hm=>?_) fun b hm=>?_
 ·refine pk 1 E (kc 9 rfl b) rfl fun a E=>gv 9 E b rfl (uN E H rfl rfl c Jk) fun a E=>pk 3 E (kc 9 rfl b) rfl fun a E=>cs hm (fun d hm=>?_) fun d hm=>?_
  ·refine pk 4 E (kc 14 rfl d) rfl fun a E=>nt<|wp_ret<|o1 E rfl<|?_
   cases hm
   exact ⟨rfl,H.reads Y0⟩
  ·refine pk 4 E (kc 14 rfl d) rfl fun a E=>nt<|wp_ret<|o1 E rfl<|?_
   cases hm
   exact ⟨rfl,H.reads Y0⟩
 ·refine pk 9 E (kc 9 rfl b) rfl fun a E=>nt<|wp_ret<|o1 E rfl<|?_
  cases hm
  exact ⟨rfl,H.reads Y0⟩

def rJ(b:List aQ)(c:List aQ):Option Z7:=
  (ck (c.length+b.length ≤ LIM)).bind fun d=>some (c ++ b)
theorem vF{c d:Value}{e f:List aQ}{b:Nat}(H:Sep w (Blk b 192 [d]::Row 97 cB d f::Fo) rs)(g:rSl cB c e ∈ rs){r:Z7}(hm:rJ e f=some r) :
    Cf 223 [c,pt b 0] w fun v w'=>∃ j,.tuple #[]=v∧Sep w' (Blk b 192 [j]::Row 97 cB j r::Fo) (rs):=by
 unfold rJ at hm
 refine ent Tryz.func223 rfl Tryz.ntmps223 rfl rfl fun a E=>wp_region_lit<|lb2 E H 0 Nl rfl fun a E=>pr 1 E rfl fun a E=>bk hm fun k hm=>cO (i:=1) E H (wn rfl) rfl rfl rfl rfl rfl rfl (fA g) Nl GE rfl k rfl fun m w a H E=>?_
 obtain ⟨q10,l,rfl⟩:=H.rowform (i:=1) rfl
 refine ss 0 E H rfl GF rfl fun w H=>wpList_nil<|vC E rfl<|?_
 cases hm
 exact ⟨_,rfl,H.reads Y0⟩

def vG(x1:Int)(b:ByteArray)(c:ByteArray):Option aQ:=
  some ((⟨x1,b,c,(ByteArray.mk #[]),0,0,false⟩:aQ))
theorem w3{x1:Int}{j k:Nat}{b c:ByteArray}{d e f g i:Value}(H:Sep w (Blk j 9 [.string b]::Blk k 134 [d,.string c,e,f,g,i]::Fo) rs){r:aQ}(hm:vG x1 b c=some r) :
    Cf 224 [.int .i64 x1,pt j 0,pt k 0] w fun v w'=>.agg (bE r).toArray=v∧Sep w' (Blk j 9 [.string b]::Blk k 134 [d,.string c,e,f,g,i]::Fo) (rs):=by
 unfold vG at hm
 refine ent Tryz.func224 rfl Tryz.ntmps224 rfl rfl fun a E=>sq<|al2 E H rfl Gd fun l w a H E=>xp 1 E rfl fun a E=>lb2 E H 1 U9 rfl fun a E=>pr 1 E rfl fun a E=>lb2 E H 2 U9 rfl fun a E=>sv2 E rfl (bP E rfl (E.evs rfl) (v:=.agg #[.int .i64 x1,.string b,.string c,.string (ByteArray.mk #[]),.int .i64 0,.int .i64 0,.bool false]) (by kernel_rfl)) fun a E=>ss 0 E H rfl hU rfl fun w H=>nt<|wp_ret<|oB 0 [.int .i64 x1,.string b,.string c,.string (ByteArray.mk #[]),.int .i64 0,.int .i64 0,.bool false] E H U97 rfl hU<|have H:=H.drop 0;?_
 cases hm
 exact ⟨rfl,H.reads Y0⟩

def w4(x1:Int)(b:ByteArray)(c:Int):Option aQ:=
  some ((⟨x1,b,b,(ByteArray.mk #[]),0,c,false⟩:aQ))
theorem R6{x1 c:Int}{g:Nat}{b:ByteArray}{i d e f:Value}(H:Sep w (Blk g 134 [i,.string b,d,e,.int .i64 c,f]::Fo) rs){r:aQ}(hm:w4 x1 b c=some r) :
    Cf 225 [.int .i64 x1,pt g 0] w fun v w'=>.agg (bE r).toArray=v∧Sep w' (Blk g 134 [i,.string b,d,e,.int .i64 c,f]::Fo) (rs):=by
 unfold w4 at hm
 refine ent Tryz.func225 rfl Tryz.ntmps225 rfl rfl fun a E=>sq<|al2 E H rfl Gd fun j w a H E=>xp 2 E rfl fun a E=>lb2 E H 1 U9 rfl fun a E=>pr 1 E rfl fun a E=>lb2 E H 1 U9 rfl fun a E=>pr 1 E rfl fun a E=>lb2 E H 1 U2 rfl fun a E=>sv2 E rfl (bP E rfl (E.evs rfl) (v:=.agg #[.int .i64 x1,.string b,.string b,.string (ByteArray.mk #[]),.int .i64 0,.int .i64 c,.bool false]) (by kernel_rfl)) fun a E=>ss 0 E H rfl hU rfl fun w H=>nt<|wp_ret<|oB 0 [.int .i64 x1,.string b,.string b,.string (ByteArray.mk #[]),.int .i64 0,.int .i64 c,.bool false] E H U97 rfl hU<|have H:=H.drop 0;?_
 cases hm
 exact ⟨rfl,H.reads Y0⟩

def w5(x1:Int)(c:ByteArray)(d:ByteArray)(e:Int):Option aQ:=
  (vG x1 c d).bind fun b=>some ((⟨b.Kind,b.Dir,b.Path,b.Data,e,b.Owner,b.Turns⟩:aQ))
theorem R7{x1 c:Int}{k e d:Nat}{l m:ByteArray}{f g i j:Value}(H:Sep w (Blk k 258 [.func (.func 224) #[] #[pt e 0,pt d 0]]::Blk e 9 [.string l]::Blk d 134 [f,.string m,g,.int .i64 c,i,j]::Fo) rs){r:aQ}(hm:w5 x1 l m c=some r) :
    Cf 226 [.int .i64 x1,pt k 0,pt d 0] w fun v w'=>.agg (bE r).toArray=v∧Sep w' (Blk k 258 [.func (.func 224) #[] #[pt e 0,pt d 0]]::Blk e 9 [.string l]::Blk d 134 [f,.string m,g,.int .i64 c,i,j]::Fo) (rs):=by
 unfold w5 at hm
 refine ent Tryz.func226 rfl Tryz.ntmps226 rfl rfl fun a E=>sq<|al2 E H rfl Gd fun o w a H E=>nx<|lb2 E H 1 Nk rfl fun a E=>pr 1 E rfl fun a E=>have H:=H.frs [1,1,3,3] rfl;bd hm fun b n hm=>bM E (wn rfl) rfl rfl (bO E rfl rfl rfl ((cf_ 224) _)) (w3 H n)<|?_
 rintro _ w ⟨rfl,H⟩ a E
 refine al2 E H rfl Gd fun p w a H E=>ss 0 E H rfl hU rfl fun w H=>xp 1 E rfl fun a E=>lb2 E H 2 U2 rfl fun a E=>pr 1 E rfl fun a E=>ss 0 E H rfl sz2 rfl fun w H=>nx<|ln 0 [.int .i64 b.Kind,.string b.Dir,.string b.Path,.string b.Data,.int .i64 c,.int .i64 b.Owner,.bool b.Turns] E H U97 rfl hU fun a E=>ss 3 E H rfl hU rfl fun w H=>nt<|wp_ret<|oB 3 [.int .i64 b.Kind,.string b.Dir,.string b.Path,.string b.Data,.int .i64 c,.int .i64 b.Owner,.bool b.Turns] E H U97 rfl hU<|have H:=H.drs [0,2];have H:=H.frs [1,1,2] rfl;?_
 cases hm
 exact ⟨rfl,H.reads Y0⟩

def dL(c:ByteArray):Nat→Int→Int→Option Int
  | 0,_,_=>none
  | d+1,x3,b=>
    if (decide (b ≥ 0))=true then ((idx c.data.toList b).bind fun e=>if ((e.toNat:Int) == x3)=true then (some (b)) else (dL c d x3 (IntKind.i64.wrap (b - 1)))) else (some ((-1)))
def gH(b:ByteArray)(c:Int):Option Int:=
  dL b (((IntKind.i64.wrap ((b.size:Int) - 1)) - 0:Int).toNat+2) c (IntKind.i64.wrap ((b.size:Int) - 1))
theorem yF{c:ByteArray}{f:Int}(H:Sep w (Fo) rs){r:Int}(hm:gH c f=some r) :
    Cf 346 [.string c,.int .u8 f] w fun v w'=>.int .i64 r=v∧Sep w' (Fo) (rs):=by
 unfold gH at hm
 refine ent Tryz.func346 rfl Tryz.ntmps346 rfl rfl fun a E=>sq<|pn 1 E rfl fun a E=>wp_seq<|sq<|pn 4 E rfl fun a E=>wp_block<|bD (fun b a w=>∃ x3 e,Jn 19 a w [(0,.string c),(1,.int .u8 x3),(5,.int .i64 e)] (Fo) rs (dL c b x3 e=some r)) (((IntKind.i64.wrap ((c.size:Int) - 1)) - 0:Int).toNat+2) ?_ ?_
 ·exact X3 ⟨E.to rfl,H,Y0,hm⟩
 ·clear E H hm
  rintro b a w ⟨x3,e,i,E,H,d,hm⟩
  cases b with
  | zero=>exact (aZ hm rfl).elim
  | succ b=>
   unfold dL at hm
   refine wp_seq<|sq<|pn 2 E rfl fun a E=>wif E hm rfl (fun hm=>?_) fun hm=>?_
   ·refine wp_skip<|aA<|wp_seq<|wp_block<|sp 2 E rfl fun a E=>bd hm fun j g hm=>sv2 E rfl (Bj E rfl rfl rfl U9 g) fun a E=>pr 2 E rfl fun a E=>nt<|wif E hm rfl (fun hm=>?_) fun hm=>?_
    ·refine sq<|pn 2 E rfl fun a E=>wp_ret<|bF<|aG<|aG<|bF<|aG<|o1 E rfl<|?_
     cases hm
     exact ⟨rfl,H.reads d⟩
    ·exact wp_skip<|bH<|aA<|wp_region_lit<|pn 3 E rfl fun a E=>⟨b,Nat.lt_succ_self b,X3 ⟨E.to rfl,H,d,hm⟩⟩
   ·refine wp_exit<|aL<|aL<|cH<|aA<|sq<|pn 1 E rfl fun a E=>wp_ret<|o1 E rfl<|?_
    cases hm
    exact ⟨rfl,H.reads d⟩

def qF(b:ByteArray)(c:Int):Option Int:=
  (gH b c).bind fun d=>some (d)
theorem N6{b:ByteArray}{c:Int}(H:Sep w (Fo) rs){r:Int}(hm:qF b c=some r) :
    Cf 306 [.string b,.int .u8 c] w fun v w'=>.int .i64 r=v∧Sep w' (Fo) (rs):=by
 unfold qF at hm
 refine ent Tryz.func306 rfl Tryz.ntmps306 rfl rfl fun a E=>sp 1 E rfl fun a E=>xp 2 E rfl fun a E=>bd hm fun e d hm=>xk2 E rfl (cf_ 346) (yF H d) fun w H a E=>pn 1 E rfl fun a E=>wp_ret<|o1 E rfl<|?_
 cases hm
 exact ⟨rfl,H.reads Y0⟩

def xQ(b:ByteArray)(d:Bool):Option (ByteArray×ByteArray×Bool):=
  if d=true then (some ((ByteArray.mk #[]),(ByteArray.mk #[]),false)) else ((qF b 47).bind fun c=>(ck (0 ≤ (max c 1)∧(max c 1) ≤ b.size)).bind fun e=>(ck (0 ≤ (IntKind.i64.wrap (c+1))∧(IntKind.i64.wrap (c+1)) ≤ b.size)).bind fun f=>some (b.extract 0 (max c 1).toNat,b.extract (IntKind.i64.wrap (c+1)).toNat b.size,true))
def p9(b:ByteArray):Option (ByteArray×ByteArray×Bool):=
  (dX b).bind fun c=>if (!c)=true then (xQ b true) else (xQ b (sEq b (ByteArray.mk #[47])))
theorem Ig{c:ByteArray}(H:Sep w (Fo) rs){r:ByteArray×ByteArray×Bool}(hm:p9 c=some r) :
    Cf 241 [.string c] w fun v w'=>.tuple #[.string r.1,.string r.2.1,.bool r.2.2]=v∧Sep w' (Fo) (rs):=by
 unfold p9 at hm
 refine ent Tryz.func241 rfl Tryz.ntmps241 rfl rfl fun a E=>sq<|pn 3 E rfl fun a E=>wp_seq<|aK (fun a w=>∃ e,Jn 23 a w [(0,.string c),(12,.bool e)] (Fo) rs (xQ c e=some r)) ?_ ?_
 ·refine wp_region_lit<|pr 1 E rfl fun a E=>bd hm fun k f hm=>xk2 E rfl (cf_ 83) (iL H f) fun w H a E=>pr 2 E rfl fun a E=>cs hm (fun b hm=>?_) fun b hm=>?_
  ·exact pk 3 E (kc 9 rfl b) rfl fun a E=>nt<|⟨_,_,E.to rfl,H,Y0,hm⟩
  ·exact pk 3 E (kc 9 rfl b) rfl fun a E=>nt<|⟨_,_,E.to rfl,H,Y0,hm⟩
 ·clear E H hm
  rintro a w ⟨e,l,E,H,d,hm⟩
  unfold xQ at hm
  refine wif E hm rfl (fun hm=>?_) fun hm=>?_
  ·refine sq<|pn 3 E rfl fun a E=>wp_ret<|aG<|Mm E rfl rfl rfl rfl<|?_
   cases hm
   exact ⟨rfl,H.reads d⟩
  ·refine wp_skip<|aA<|sp 1 E rfl fun a E=>bd hm fun m i hm=>xk2 E rfl (cf_ 306) (N6 H i) fun w H a E=>pn 1 E rfl fun a E=>wp_seq<|dz [0,0,0,0,0,0,0,0,1,2,2] [] H fun w W0 hI H=>fn 2 E rfl fun a E=>fv E rfl (fun w hW=>(FP (t:=0) E rfl rfl rfl)) fun a E=>bk hm fun j hm=>fv E rfl (fun w hW=>(Bk E rfl rfl rfl U9 j)) fun a E=>fn 3 E rfl fun a E=>bk hm fun g hm=>fv E rfl (fun w hW=>(T9 E rfl rfl rfl U9 g)) fun a E=>bI rfl<|pn 1 E rfl fun a E=>⟨⟨_,_,H,(bC),(bG)⟩,bL rfl<|pn 1 E rfl fun a E=>bL rfl<|pn 1 E rfl fun a E=>aY<|?_⟩
   clear hI
   refine aA<|wp_ret<|Mm E rfl rfl rfl rfl<|?_
   cases hm
   exact ⟨rfl,H.reads d⟩

def qD(c:ByteArray):Option yV:=
  (p9 c).bind fun b=>some (b.1,b.2.2)
theorem x7{b:ByteArray}(H:Sep w (Fo) rs){r:ByteArray×Bool}(hm:qD b=some r) :
    Cf 180 [.string b] w fun v w'=>.tuple #[.string r.1,.bool r.2]=v∧Sep w' (Fo) (rs):=by
 unfold qD at hm
 refine ent Tryz.func180 rfl Tryz.ntmps180 rfl rfl fun a E=>sp 2 E rfl fun a E=>xp 1 E rfl fun a E=>bd hm fun d c hm=>xk2 E rfl (cf_ 241) (Ig H c) fun w H a E=>pr 7 E rfl fun a E=>nx<|pn 4 E rfl fun a E=>wp_ret<|fW E rfl rfl rfl<|?_
 cases hm
 exact ⟨rfl,H.reads Y0⟩

def zK(c:ByteArray):Option ByteArray:=
  (qD c).bind fun b=>if b.2=true then (some (b.1)) else (some ((ByteArray.mk #[47])))
theorem Cc{b:ByteArray}(H:Sep w (Fo) rs){r:ByteArray}(hm:zK b=some r) :
    Cf 201 [.string b] w fun v w'=>.string r=v∧Sep w' (Fo) (rs):=by
 unfold zK at hm
 refine ent Tryz.func201 rfl Tryz.ntmps201 rfl rfl fun a E=>sq<|pn 1 E rfl fun a E=>wp_seq<|sp 1 E rfl fun a E=>bd hm fun d c hm=>xk2 E rfl (cf_ 180) (x7 H c) fun w H a E=>pr 5 E rfl fun a E=>nx<|pn 1 E rfl fun a E=>wif E hm rfl (fun hm=>?_) fun hm=>?_
 ·refine sq<|pn 2 E rfl fun a E=>wp_ret<|aG<|o1 E rfl<|?_
  cases hm
  exact ⟨rfl,H.reads Y0⟩
 ·refine wp_skip<|aA<|sq<|pn 1 E rfl fun a E=>wp_ret<|o1 E rfl<|?_
  cases hm
  exact ⟨rfl,H.reads Y0⟩

def nR(b:Z7):Option Z7:=
  some (b)
def Cd(x1:dH):Option Z7:=
  (G5 x1).bind fun x=>if (!x)=true then (some ([])) else ((zK x1.Path).bind fun c=>if (x1.Kind == 1)=true then ((vG 2 c x1.Path).bind fun d=>(zK c).bind fun e=>(rJ ([(⟨1,e,c,(ByteArray.mk #[]),0,0,false⟩:aQ),(⟨d.Kind,d.Dir,d.Path,x1.Data,d.Version,x1.Owner,x1.Turns⟩:aQ)]:List aQ) []).bind fun f=>nR f) else (if (x1.Kind == 2)=true then ((w5 3 c x1.Path x1.Version).bind fun g=>(w4 4 x1.Path x1.Owner).bind fun i=>(rJ ([g,i]:List aQ) []).bind fun j=>nR j) else (if (x1.Kind == 3)=true then ((w5 5 c x1.Path x1.Version).bind fun b=>(rJ ([(⟨b.Kind,b.Dir,b.Path,x1.Data,b.Version,b.Owner,b.Turns⟩:aQ)]:List aQ) []).bind fun k=>nR k) else (if (x1.Kind == 4)=true then ((w5 6 c x1.Path x1.Version).bind fun l=>(rJ ([l]:List aQ) []).bind fun m=>nR m) else (if (x1.Kind == 5)=true then ((vG 7 c x1.Path).bind fun n=>(rJ ([n]:List aQ) []).bind fun o=>nR o) else (if (x1.Kind == 6)=true then ((vG 8 c x1.Path).bind fun p=>(w4 9 x1.Path x1.Owner).bind fun q=>(rJ ([p,q]:List aQ) []).bind fun s=>nR s) else (if (x1.Kind == 7)=true then ((vG 8 c x1.Path).bind fun t=>(w4 10 x1.Path x1.Owner).bind fun u=>(rJ ([t,u]:List aQ) []).bind fun v=>nR v) else (nR []))))))))
theorem Uj{x1:dH}(H:Sep w (Fo) rs){r:Z7}(hm:Cd x1=some r) :
    Cf 141 [.agg (pM x1).toArray] w fun v w'=>∃ S,S=v∧Sep w' (Row 97 cB S r::Fo) (rs):=by
 unfold Cd at hm
 refine ent Tryz.func141 rfl Tryz.ntmps141 rfl rfl fun a E=>sq<|bx E H rfl fun d0 w a H E=>pn 1 E rfl fun a E=>wp_seq<|sq<|ln 0 (pM x1) E H Nj rfl P4 fun a E=>bd hm fun d1 T hm=>xk2 E rfl (cf_ 222) (Ev H T) fun w H a E=>pn 1 E rfl fun a E=>wif E hm rfl (fun hm=>?_) fun hm=>?_
 ·refine sq<|pn 1 E rfl fun a E=>wp_ret<|aG<|o1 E rfl<|have H:=H.nilRow 97 cB;have H:=H.drop 1;?_
  cases hm
  exact ⟨_,rfl,H.reads Y0⟩
 ·refine wp_skip<|aA<|sq<|al1 E H rfl rfl rfl rfl GB rfl fun U w a H E=>nx<|sv2 E rfl (nM E rfl rfl rfl) fun a E=>pr 1 E rfl fun a E=>xp 1 E rfl fun a E=>lb2 E H 1 U9 rfl fun a E=>bd hm fun q V hm=>xk2 E rfl (cf_ 201) (Cc H V) fun w H a E=>al1 E H rfl rfl rfl rfl zr9 rfl fun d2 w a H E=>ss 0 E H rfl sz9 rfl fun w H=>nx<|sv2 E rfl (nM E rfl rfl rfl) fun a E=>al1 E H rfl rfl rfl rfl GC rfl fun d3 w a H E=>ss 0 E H rfl GD rfl fun w H=>nx<|sv2 E rfl (nM E rfl rfl rfl) fun a E=>pr 1 E rfl fun a E=>nx<|sv2 E rfl (nM E rfl rfl rfl) fun a E=>pn 1 E rfl fun a E=>aK (fun a w=>∃ s t,Jn 97 a w [(3,pt U 0)] (Blk U 192 [s]::Row 97 cB s t::Fo) rs (nR t=some r)) ?_ ?_
  ·refine sp 1 E rfl fun a E=>lb2 E H 3 U3 rfl fun a E=>nt<|wp_block<|sq<|pn 2 E rfl fun a E=>wif E hm rfl (fun hm=>?_) fun hm=>?_
   ·refine sq<|lb2 E H 0 Nk rfl fun a E=>have H:=H.frs [2,1,3,3] rfl;bd hm fun c u hm=>bM E (wn rfl) rfl rfl (bO E rfl rfl rfl ((cf_ 224) _)) (w3 H u)<|?_
    rintro _ w ⟨rfl,H⟩ a E
    refine al2 E H rfl Gd fun X w a H E=>ss 0 E H rfl hU rfl fun w H=>nt<|wp_seq<|dz [0,0,0,0,0,0,0,1,0,1,2,2] [2] H fun w W0 hI H=>fn 1 E rfl fun a E=>fb2 E m0 U9 rfl fun a E=>fn 1 E rfl fun a E=>fb2 E m0 U2 rfl fun a E=>fn 1 E rfl fun a E=>fb2 E m0 U4 rfl fun a E=>fn 1 E rfl fun a E=>bI rfl<|ss 0 E H rfl sz9 rfl fun w H=>nt<|⟨sx H [2] rfl,fn 1 E rfl fun a E=>bI rfl<|ss 0 E H rfl sz2 rfl fun w H=>nt<|⟨sx H [2] rfl,bL rfl<|pn 1 E rfl fun a E=>bL rfl<|ss 0 E H rfl sz4 rfl fun w H=>nt<|aY<|?_⟩⟩
    clear hI
    refine aA<|dw [(0,0),(1,0),(3,0),(5,0),(2,1),(4,0),(6,1),(7,1)] [0,1] [] H (by kernel_rfl) (fun _ _ _ h=>False.elim h.2) fun w W0 hI H=>fn 1 E rfl fun a E=>fb2 E mm1 U9 rfl fun a E=>fb2 E mm1 U9 rfl fun a E=>fbn E [.int .i64 c.Kind,.string c.Dir,.string c.Path,.string x1.Data,.int .i64 c.Version,.int .i64 x1.Owner,.bool x1.Turns] rfl (wn rfl) rfl rfl rfl rfl m0 rfl U97 rfl hU fun a E=>bI rfl<|bd hm fun p y hm=>xk2 E rfl (cf_ 201) (Cc H y) fun w H a E=>nt<|⟨sx H [0,1] rfl,fv E rfl (fun w hW=>(bP E rfl (E.evs rfl) (v:=.agg #[.int .i64 1,.string p,.string q,.string (ByteArray.mk #[]),.int .i64 0,.int .i64 0,.bool false]) (by kernel_rfl))) fun a E=>bI rfl<|gU (e:=97) (d:=cB) (cs:=[.int .i64 1,.string p,.string q,.string (ByteArray.mk #[]),.int .i64 0,.int .i64 0,.bool false,.int .i64 c.Kind,.string c.Dir,.string c.Path,.string x1.Data,.int .i64 c.Version,.int .i64 x1.Owner,.bool x1.Turns]) (xs:=[(⟨1,p,q,(ByteArray.mk #[]),0,0,false⟩:aQ),(⟨c.Kind,c.Dir,c.Path,x1.Data,c.Version,x1.Owner,x1.Turns⟩:aQ)]) E H (wn rfl) rfl rfl rfl (E.evs rfl) (by kernel_rfl) rfl rfl (fun ok hr=>(Rows.append (Rows.single (d:=cB) (cs:=[.int .i64 1,.string p,.string q,.string (ByteArray.mk #[]),.int .i64 0,.int .i64 0,.bool false]) (x:=(⟨1,p,q,(ByteArray.mk #[]),0,0,false⟩:aQ)) gO) (Rows.single (d:=cB) (cs:=[.int .i64 c.Kind,.string c.Dir,.string c.Path,.string x1.Data,.int .i64 c.Version,.int .i64 x1.Owner,.bool x1.Turns]) (x:=(⟨c.Kind,c.Dir,c.Path,x1.Data,c.Version,x1.Owner,x1.Turns⟩:aQ)) gO))) fun Y w a H E=>nt<|⟨sx H [1,2] rfl,bI rfl<|have H:=H.thaw (i:=0) rfl;have H:=H.nilRow 97 cB;have H:=H.frs [4,4,4,4,4,5] rfl;bd hm fun Z z hm=>bM E (wn rfl) rfl rfl (bO E rfl rfl rfl ((cf_ 223) _)) (vF H m0 z)<|?_⟩⟩
    rintro _ w ⟨b0,rfl,H⟩ a E
    refine nt<|⟨sx H [2,3] rfl,aY<|?_⟩
    clear hI
    exact bH<|aA<|have H:=H.drs [2,2,2,2];X3 ⟨E.to rfl,H,(Y1 Y0),hm⟩
   ·refine sq<|pn 2 E rfl fun a E=>wif E hm rfl (fun hm=>?_) fun hm=>?_
    ·refine wp_region_lit<|pr 2 E rfl fun a E=>have H:=H.frs [2,3,3,3] rfl;bd hm fun f A hm=>bM E (wn rfl) rfl rfl (bO E rfl rfl rfl ((cf_ 226) _)) (R7 H A)<|?_
     rintro _ w ⟨rfl,H⟩ a E
     refine pr 1 E rfl fun a E=>have H:=H.frs [3,2,2,3] rfl;bd hm fun g B hm=>bM E (wn rfl) rfl rfl (bO E rfl rfl rfl ((cf_ 225) _)) (R6 H B)<|?_
     rintro _ w ⟨rfl,H⟩ a E
     refine gU (e:=97) (d:=cB) (cs:=[.int .i64 f.Kind,.string f.Dir,.string f.Path,.string f.Data,.int .i64 f.Version,.int .i64 f.Owner,.bool f.Turns,.int .i64 g.Kind,.string g.Dir,.string g.Path,.string g.Data,.int .i64 g.Version,.int .i64 g.Owner,.bool g.Turns]) (xs:=[f,g]) E H (wn rfl) rfl rfl rfl (E.evs rfl) (by kernel_rfl) rfl rfl (fun ok hr=>(Rows.append (Rows.single (d:=cB) (cs:=[.int .i64 f.Kind,.string f.Dir,.string f.Path,.string f.Data,.int .i64 f.Version,.int .i64 f.Owner,.bool f.Turns]) (x:=f) gO) (Rows.single (d:=cB) (cs:=[.int .i64 g.Kind,.string g.Dir,.string g.Path,.string g.Data,.int .i64 g.Version,.int .i64 g.Owner,.bool g.Turns]) (x:=g) gO))) fun b1 w a H E=>have H:=H.thaw (i:=0) rfl;have H:=H.nilRow 97 cB;have H:=H.frs [3,3,3,3,4] rfl;bd hm fun b2 C hm=>bM E (wn rfl) rfl rfl (bO E rfl rfl rfl ((cf_ 223) _)) (vF H m0 C)<|?_
     rintro _ w ⟨b3,rfl,H⟩ a E
     exact wpList_nil<|bH<|aA<|have H:=H.drs [2,2,2];X3 ⟨E.to rfl,H,(Y1 Y0),hm⟩
    ·refine sq<|pn 2 E rfl fun a E=>wif E hm rfl (fun hm=>?_) fun hm=>?_
     ·refine sp 1 E rfl fun a E=>have H:=H.frs [2,3,3,3] rfl;bd hm fun b D hm=>bM E (wn rfl) rfl rfl (bO E rfl rfl rfl ((cf_ 226) _)) (R7 H D)<|?_
      rintro _ w ⟨rfl,H⟩ a E
      refine al2 E H rfl Gd fun b4 w a H E=>ss 0 E H rfl hU rfl fun w H=>xp 1 E rfl fun a E=>lb2 E H 3 U9 rfl fun a E=>pr 1 E rfl fun a E=>ss 0 E H rfl sz9 rfl fun w H=>nt<|wp_region_lit<|pr 1 E rfl fun a E=>ln 0 [.int .i64 b.Kind,.string b.Dir,.string b.Path,.string x1.Data,.int .i64 b.Version,.int .i64 b.Owner,.bool b.Turns] E H U97 rfl hU fun a E=>gU (e:=97) (d:=cB) (cs:=[.int .i64 b.Kind,.string b.Dir,.string b.Path,.string x1.Data,.int .i64 b.Version,.int .i64 b.Owner,.bool b.Turns]) (xs:=[(⟨b.Kind,b.Dir,b.Path,x1.Data,b.Version,b.Owner,b.Turns⟩:aQ)]) E H (wn rfl) rfl rfl rfl (E.evs rfl) (by kernel_rfl) rfl rfl (fun ok hr=>(Rows.single (d:=cB) (cs:=[.int .i64 b.Kind,.string b.Dir,.string b.Path,.string x1.Data,.int .i64 b.Version,.int .i64 b.Owner,.bool b.Turns]) (x:=(⟨b.Kind,b.Dir,b.Path,x1.Data,b.Version,b.Owner,b.Turns⟩:aQ)) gO)) fun b5 w a H E=>have H:=H.thaw (i:=0) rfl;have H:=H.nilRow 97 cB;have H:=H.frs [4,4,4,4,4,5] rfl;bd hm fun b6 F hm=>bM E (wn rfl) rfl rfl (bO E rfl rfl rfl ((cf_ 223) _)) (vF H m0 F)<|?_
      rintro _ w ⟨b7,rfl,H⟩ a E
      exact wpList_nil<|bH<|aA<|have H:=H.drs [2,2,2,2];X3 ⟨E.to rfl,H,(Y1 Y0),hm⟩
     ·refine sq<|pn 2 E rfl fun a E=>wif E hm rfl (fun hm=>?_) fun hm=>?_
      ·refine wp_region_lit<|pr 2 E rfl fun a E=>have H:=H.frs [2,3,3,3] rfl;bd hm fun j G hm=>bM E (wn rfl) rfl rfl (bO E rfl rfl rfl ((cf_ 226) _)) (R7 H G)<|?_
       rintro _ w ⟨rfl,H⟩ a E
       refine gU (e:=97) (d:=cB) (cs:=[.int .i64 j.Kind,.string j.Dir,.string j.Path,.string j.Data,.int .i64 j.Version,.int .i64 j.Owner,.bool j.Turns]) (xs:=[j]) E H (wn rfl) rfl rfl rfl (E.evs rfl) (by kernel_rfl) rfl rfl (fun ok hr=>(Rows.single (d:=cB) (cs:=[.int .i64 j.Kind,.string j.Dir,.string j.Path,.string j.Data,.int .i64 j.Version,.int .i64 j.Owner,.bool j.Turns]) (x:=j) gO)) fun b8 w a H E=>have H:=H.thaw (i:=0) rfl;have H:=H.nilRow 97 cB;have H:=H.frs [3,3,3,3,4] rfl;bd hm fun b9 I hm=>bM E (wn rfl) rfl rfl (bO E rfl rfl rfl ((cf_ 223) _)) (vF H m0 I)<|?_
       rintro _ w ⟨c0,rfl,H⟩ a E
       exact wpList_nil<|bH<|aA<|have H:=H.drs [2,2,2];X3 ⟨E.to rfl,H,(Y1 Y0),hm⟩
      ·refine sq<|pn 2 E rfl fun a E=>wif E hm rfl (fun hm=>?_) fun hm=>?_
       ·refine wp_region_lit<|pr 1 E rfl fun a E=>lb2 E H 0 Nk rfl fun a E=>have H:=H.frs [2,1,3,3] rfl;bd hm fun k J hm=>bM E (wn rfl) rfl rfl (bO E rfl rfl rfl ((cf_ 224) _)) (w3 H J)<|?_
        rintro _ w ⟨rfl,H⟩ a E
        refine gU (e:=97) (d:=cB) (cs:=[.int .i64 k.Kind,.string k.Dir,.string k.Path,.string k.Data,.int .i64 k.Version,.int .i64 k.Owner,.bool k.Turns]) (xs:=[k]) E H (wn rfl) rfl rfl rfl (E.evs rfl) (by kernel_rfl) rfl rfl (fun ok hr=>(Rows.single (d:=cB) (cs:=[.int .i64 k.Kind,.string k.Dir,.string k.Path,.string k.Data,.int .i64 k.Version,.int .i64 k.Owner,.bool k.Turns]) (x:=k) gO)) fun c1 w a H E=>have H:=H.thaw (i:=0) rfl;have H:=H.nilRow 97 cB;have H:=H.frs [3,3,3,3,4] rfl;bd hm fun c2 K hm=>bM E (wn rfl) rfl rfl (bO E rfl rfl rfl ((cf_ 223) _)) (vF H m0 K)<|?_
        rintro _ w ⟨c3,rfl,H⟩ a E
        exact wpList_nil<|bH<|aA<|have H:=H.drs [2,2,2];X3 ⟨E.to rfl,H,(Y1 Y0),hm⟩
       ·refine sq<|pn 2 E rfl fun a E=>wif E hm rfl (fun hm=>?_) fun hm=>?_
        ·refine wp_region_lit<|pr 1 E rfl fun a E=>lb2 E H 0 Nk rfl fun a E=>have H:=H.frs [2,1,3,3] rfl;bd hm fun l L hm=>bM E (wn rfl) rfl rfl (bO E rfl rfl rfl ((cf_ 224) _)) (w3 H L)<|?_
         rintro _ w ⟨rfl,H⟩ a E
         refine pr 1 E rfl fun a E=>have H:=H.frs [3,3,2,3] rfl;bd hm fun m M hm=>bM E (wn rfl) rfl rfl (bO E rfl rfl rfl ((cf_ 225) _)) (R6 H M)<|?_
         rintro _ w ⟨rfl,H⟩ a E
         refine gU (e:=97) (d:=cB) (cs:=[.int .i64 l.Kind,.string l.Dir,.string l.Path,.string l.Data,.int .i64 l.Version,.int .i64 l.Owner,.bool l.Turns,.int .i64 m.Kind,.string m.Dir,.string m.Path,.string m.Data,.int .i64 m.Version,.int .i64 m.Owner,.bool m.Turns]) (xs:=[l,m]) E H (wn rfl) rfl rfl rfl (E.evs rfl) (by kernel_rfl) rfl rfl (fun ok hr=>(Rows.append (Rows.single (d:=cB) (cs:=[.int .i64 l.Kind,.string l.Dir,.string l.Path,.string l.Data,.int .i64 l.Version,.int .i64 l.Owner,.bool l.Turns]) (x:=l) gO) (Rows.single (d:=cB) (cs:=[.int .i64 m.Kind,.string m.Dir,.string m.Path,.string m.Data,.int .i64 m.Version,.int .i64 m.Owner,.bool m.Turns]) (x:=m) gO))) fun c4 w a H E=>have H:=H.thaw (i:=0) rfl;have H:=H.nilRow 97 cB;have H:=H.frs [3,3,3,3,4] rfl;bd hm fun c5 N hm=>bM E (wn rfl) rfl rfl (bO E rfl rfl rfl ((cf_ 223) _)) (vF H m0 N)<|?_
         rintro _ w ⟨c6,rfl,H⟩ a E
         exact wpList_nil<|bH<|aA<|have H:=H.drs [2,2,2];X3 ⟨E.to rfl,H,(Y1 Y0),hm⟩
        ·refine sq<|pn 2 E rfl fun a E=>wif E hm rfl (fun hm=>?_) fun hm=>?_
         ·refine wp_region_lit<|pr 1 E rfl fun a E=>lb2 E H 0 Nk rfl fun a E=>have H:=H.frs [2,1,3,3] rfl;bd hm fun n O hm=>bM E (wn rfl) rfl rfl (bO E rfl rfl rfl ((cf_ 224) _)) (w3 H O)<|?_
          rintro _ w ⟨rfl,H⟩ a E
          refine pr 1 E rfl fun a E=>have H:=H.frs [3,3,2,3] rfl;bd hm fun o P hm=>bM E (wn rfl) rfl rfl (bO E rfl rfl rfl ((cf_ 225) _)) (R6 H P)<|?_
          rintro _ w ⟨rfl,H⟩ a E
          refine gU (e:=97) (d:=cB) (cs:=[.int .i64 n.Kind,.string n.Dir,.string n.Path,.string n.Data,.int .i64 n.Version,.int .i64 n.Owner,.bool n.Turns,.int .i64 o.Kind,.string o.Dir,.string o.Path,.string o.Data,.int .i64 o.Version,.int .i64 o.Owner,.bool o.Turns]) (xs:=[n,o]) E H (wn rfl) rfl rfl rfl (E.evs rfl) (by kernel_rfl) rfl rfl (fun ok hr=>(Rows.append (Rows.single (d:=cB) (cs:=[.int .i64 n.Kind,.string n.Dir,.string n.Path,.string n.Data,.int .i64 n.Version,.int .i64 n.Owner,.bool n.Turns]) (x:=n) gO) (Rows.single (d:=cB) (cs:=[.int .i64 o.Kind,.string o.Dir,.string o.Path,.string o.Data,.int .i64 o.Version,.int .i64 o.Owner,.bool o.Turns]) (x:=o) gO))) fun c7 w a H E=>have H:=H.thaw (i:=0) rfl;have H:=H.nilRow 97 cB;have H:=H.frs [3,3,3,3,4] rfl;bd hm fun c8 Q hm=>bM E (wn rfl) rfl rfl (bO E rfl rfl rfl ((cf_ 223) _)) (vF H m0 Q)<|?_
          rintro _ w ⟨c9,rfl,H⟩ a E
          exact wpList_nil<|bH<|aA<|have H:=H.drs [2,2,2];X3 ⟨E.to rfl,H,(Y1 Y0),hm⟩
         ·exact wp_skip<|bH<|aA<|have H:=H.nilRow 97 cB;have H:=H.drs [1,1,2];have H:=H.frs [0,1] rfl;X3 ⟨E.to rfl,H,Y0,hm⟩
  ·clear E H hm
   rintro a w ⟨s,t,W,E,H,R,hm⟩
   unfold nR at hm
   refine sq<|lb2 E H 0 Nl rfl fun a E=>pn 1 E rfl fun a E=>wp_ret<|o1 E rfl<|have H:=H.drop 0;?_
   cases hm
   exact ⟨_,rfl,H.reads R⟩

def x8(rec_1:xB→Int→Option xB)(b:Z7)(d:Int):Nat→xB→Int→Option xB
  | 0,_,_=>none
  | f+1,c,x20=>
    if (decide (x20 < (b.length:Int)))=true then ((idx b x20).bind fun e=>(ck (c.length+([(⟨d,e⟩:bV)]:List bV).length ≤ LIM)).bind fun g=>x8 rec_1 b d f (c ++ ([(⟨d,e⟩:bV)]:List bV)) (IntKind.i64.wrap (x20+1))) else (rec_1 c (IntKind.i64.wrap (d+1)))
def xR(c:List dH):Nat→xB→Int→Option xB
  | 0,_,_=>none
  | g+1,e,d=>
    if (decide (d < (c.length:Int)))=true then ((idx c d).bind fun f=>(Cd f).bind fun b=>x8 (xR c g) b d (((b.length:Int) - 0:Int).toNat+1) e 0) else (some (e))
def Aa(b:List dH):Option xB:=
  (R5 b).bind fun c=>if (!c)=true then (some ([])) else (xR b (((b.length:Int) - 0:Int).toNat+1) [] 0)
theorem Sj{t:Value}{f:List dH}(H:Sep w (Fo) rs)(n:rSl y6 t f ∈ rs){r:xB}(hm:Aa f=some r) :
    Cf 77 [t] w fun v w'=>∃ D,D=v∧Sep w' (Row 99 bN D r::Fo) (rs):=by
 unfold Aa at hm
 refine ent Tryz.func77 rfl Tryz.ntmps77 rfl rfl fun a E=>sq<|pn 1 E rfl fun a E=>wp_seq<|sp 1 E rfl fun a E=>bd hm fun Q F hm=>xk2 E rfl (cf_ 140) (Pp H n F) fun w H a E=>pn 1 E rfl fun a E=>wif E hm rfl (fun hm=>?_) fun hm=>?_
 ·refine sq<|pn 1 E rfl fun a E=>wp_ret<|aG<|o1 E rfl<|have H:=H.nilRow 99 bN;?_
  cases hm
  exact ⟨_,rfl,H.reads Y0⟩
 ·refine wp_skip<|aA<|sq<|pn 1 E rfl fun a E=>wp_seq<|sp 1 E rfl fun a E=>lS E H n Jk rfl fun a E=>pn 1 E rfl fun a E=>wp_block<|bD (fun g a w=>∃ y z c,Jn 34 a w [(3,y),(11,t),(12,.int .i64 (f.length:Int)),(13,.int .i64 c)] (Row 99 bN y z::Fo) rs (xR f g z c=some r)) (((f.length:Int) - 0:Int).toNat+1) ?_ ?_
  ·exact have H:=H.nilRow 99 bN;X4 ⟨E.to rfl,H,Y0,hm⟩
  ·clear E H hm
   rintro g a w ⟨y,z,c,J,E,H,j,hm⟩
   cases g with
   | zero=>exact (aZ hm rfl).elim
   | succ g=>
    unfold xR at hm
    refine sq<|pn 1 E rfl fun a E=>wp_seq<|wif E hm rfl (fun hm=>?_) fun hm=>?_
    ·refine wp_skip<|aA<|wp_seq<|wp_block<|sp 1 E rfl fun a E=>bd hm fun G A hm=>cN E H (wn rfl) rfl rfl rfl rfl rfl (j _ n) Jk P4 A fun q13 a H E=>ldf As E H rfl rfl rfl rfl rfl m0 Nj rfl P4 fun a E=>al2 E H rfl GA fun K w a H E=>pr 1 E rfl fun a E=>ss 0 E H rfl P4 rfl fun w H=>nx<|ln 0 (pM G) E H Nj rfl P4 fun a E=>bd hm fun l B hm=>xc2 E rfl (cf_ 141) (Uj H B)<|?_
     rintro _ w ⟨u,rfl,H⟩ a E
     refine sv2 E rfl (iJ (i:=0) E H rfl rfl rfl Nl) fun a E=>pn 1 E rfl fun a E=>wp_block<|bD (fun m a w=>∃ o p x20,Jn 34 a w [(3,o),(4,.int .i64 c),(11,t),(12,.int .i64 (f.length:Int)),(13,.int .i64 c),(19,u),(20,.int .i64 (l.length:Int)),(21,.int .i64 x20)] (Row 99 bN o p::Row 97 cB u l::Fo) rs (x8 (xR f g) l c m p x20=some r)) (((l.length:Int) - 0:Int).toNat+1) ?_ ?_
     ·exact have H:=H.drop 1;have H:=H.frs [0,1] rfl;X4 ⟨E.to rfl,H,(Y1 j),hm⟩
     ·clear E H hm
      rintro m a w ⟨o,p,x20,I,E,H,q,hm⟩
      cases m with
      | zero=>exact (aZ hm rfl).elim
      | succ m=>
       unfold x8 at hm
       refine sq<|pn 1 E rfl fun a E=>wp_seq<|wif E hm rfl (fun hm=>?_) fun hm=>?_
       ·refine wp_skip<|aA<|wp_seq<|wp_block<|sq<|bd hm fun b k hm=>?_
        obtain ⟨L,M,s⟩:=H.rowformNE (i:=1) rfl k
        exact sv2 E rfl (cX (d:=cB) E s rfl rfl rfl rfl Nl hU k) fun a E=>sv2 E rfl (lP (i:=1) E H P2 s rfl rfl rfl k (us:=[.int .i64 b.Kind,.string b.Dir,.string b.Path,.string b.Data,.int .i64 b.Version,.int .i64 b.Owner,.bool b.Turns]) rfl U97 rfl hU) fun a E=>al2 E H rfl Gd fun N w a H E=>ss 0 E H rfl hU rfl fun w H=>nt<|wp_region_lit<|pr 2 E rfl fun a E=>ln 0 (bE b) E H U97 rfl hU fun a E=>sv2 E rfl (bP E rfl (E.evs rfl) (v:=.agg #[.int .i64 c,.int .i64 b.Kind,.string b.Dir,.string b.Path,.string b.Data,.int .i64 b.Version,.int .i64 b.Owner,.bool b.Turns]) (by kernel_rfl)) fun a E=>iV (e:=99) (d:=bN) (cs:=[.int .i64 c,.int .i64 b.Kind,.string b.Dir,.string b.Path,.string b.Data,.int .i64 b.Version,.int .i64 b.Owner,.bool b.Turns]) (xs:=[(⟨c,b⟩:bV)]) E H (wn rfl) rfl rfl rfl (E.evs rfl) (by kernel_rfl) rfl (fun ok hr=>(Rows.single (d:=bN) (cs:=[.int .i64 c,.int .i64 b.Kind,.string b.Dir,.string b.Path,.string b.Data,.int .i64 b.Version,.int .i64 b.Owner,.bool b.Turns]) (x:=(⟨c,b⟩:bV)) V3)) fun O w a H E=>bk hm fun C hm=>cO (i:=1) E H (wn rfl) rfl rfl rfl rfl rfl rfl (fA m0) U26 GG rfl C rfl fun P w a H E=>pr 1 E rfl fun a E=>wpList_nil<|bH<|aA<|wp_region_lit<|pr 2 E rfl fun a E=>nt<|have H:=H.drop 0;⟨m,Nat.lt_succ_self m,X4 ⟨E.to rfl,H,(Y1 q),hm⟩⟩
       ·exact wp_exit<|aL<|aL<|cH<|bH<|aA<|wp_region_lit<|pn 2 E rfl fun a E=>have H:=H.drop 1;⟨g,Nat.lt_succ_self g,X4 ⟨E.to rfl,H,q,hm⟩⟩
    ·refine wp_exit<|aL<|aL<|cH<|aA<|sq<|pn 2 E rfl fun a E=>wp_ret<|o1 E rfl<|?_
     cases hm
     exact ⟨_,rfl,H.reads j⟩

def jJ(b:ByteArray):Option xB:=
  (Aa ([(⟨1,b,(ByteArray.mk #[]),0,0,false⟩:dH)]:List dH)).bind fun c=>some (c)
theorem pO{b:ByteArray}(H:Sep w (Fo) rs){r:xB}(hm:jJ b=some r) :
    Cf 36 [.string b] w fun v w'=>∃ c,c=v∧Sep w' (Row 99 bN c r::Fo) (rs):=by
 unfold jJ at hm
 refine ent Tryz.func36 rfl Tryz.ntmps36 rfl rfl fun a E=>sp 1 E rfl fun a E=>xp 1 E rfl fun a E=>sv2 E rfl (bP E rfl (E.evs rfl) (v:=.agg #[.int .i64 1,.string b,.string (ByteArray.mk #[]),.int .i64 0,.int .i64 0,.bool false]) (by kernel_rfl)) fun a E=>gU (e:=134) (d:=y6) (cs:=[.int .i64 1,.string b,.string (ByteArray.mk #[]),.int .i64 0,.int .i64 0,.bool false]) (xs:=[(⟨1,b,(ByteArray.mk #[]),0,0,false⟩:dH)]) E H (wn rfl) rfl rfl rfl (E.evs rfl) (by kernel_rfl) rfl rfl (fun ok hr=>(Rows.single (d:=y6) (cs:=[.int .i64 1,.string b,.string (ByteArray.mk #[]),.int .i64 0,.int .i64 0,.bool false]) (x:=(⟨1,b,(ByteArray.mk #[]),0,0,false⟩:dH)) Eu)) fun g w a H E=>have H:=H.thaw (i:=0) rfl;bd hm fun j f hm=>xc2 E rfl (cf_ 77) (Sj H m0 f)<|?_
 rintro _ w ⟨k,rfl,H⟩ a E
 refine pn 1 E rfl fun a E=>wp_ret<|o1 E rfl<|?_
 cases hm
 exact ⟨_,rfl,H.reads (Y1 Y0)⟩

def hX(rec_1:Int→Option Bool)(c:Int)(b:Bool):Option Bool:=
  if b=true then (some (false)) else (rec_1 (IntKind.i64.wrap (c+1)))
def eQ(b:List aI):Nat→Int→Option Bool
  | 0,_=>none
  | d+1,c=>
    if (decide (c < (b.length:Int)))=true then ((idx b c).bind fun e=>(dX e.Prefix).bind fun f=>if (!f)=true then (hX (eQ b d) c true) else (if (decide (e.Epoch < 0))=true then (hX (eQ b d) c true) else (if (decide (e.Epoch > 281474976710656))=true then (hX (eQ b d) c true) else (if (decide (e.State < 1))=true then (hX (eQ b d) c true) else (if (decide (e.State > 3))=true then (hX (eQ b d) c true) else (if (decide (c > 0))=true then ((idx b (IntKind.i64.wrap (c - 1))).bind fun g=>hX (eQ b d) c (!(sLt g.Prefix e.Prefix))) else (hX (eQ b d) c false))))))) else (some (decide ((b.length:Int) ≤ 32)))
def qE(b:List aI):Option Bool:=
  eQ b (((b.length:Int) - 0:Int).toNat+1) 0
theorem J2{o:Value}{l:List aI}(H:Sep w (Fo) rs)(n:rSl aR o l ∈ rs){r:Bool}(hm:qE l=some r) :
    Cf 38 [o] w fun v w'=>.bool r=v∧Sep w' (Fo) (rs):=by
 unfold qE at hm
 refine ent Tryz.func38 rfl Tryz.ntmps38 rfl rfl fun a E=>sq<|pn 1 E rfl fun a E=>wp_seq<|sp 1 E rfl fun a E=>lS E H n U32 rfl fun a E=>pr 1 E rfl fun a E=>nt<|wp_block<|bD (fun m a w=>∃ p,Jn 55 a w [(0,o),(5,o),(6,.int .i64 (l.length:Int)),(7,.int .i64 p)] (Fo) rs (eQ l m p=some r)) (((l.length:Int) - 0:Int).toNat+1) ?_ ?_
 ·exact ⟨_,_,E.to rfl,H,Y0,hm⟩
 ·clear E H hm
  rintro m a w ⟨p,C,E,H,c,hm⟩
  cases m with
  | zero=>exact (aZ hm rfl).elim
  | succ m=>
   unfold eQ at hm
   refine sq<|pn 1 E rfl fun a E=>wp_seq<|wif E hm rfl (fun hm=>?_) fun hm=>?_
   ·refine wp_skip<|aA<|wp_seq<|wp_block<|sp 1 E rfl fun a E=>bd hm fun K A hm=>cN E H (wn rfl) rfl rfl rfl rfl rfl (c _ n) U32 nO A fun q9 a H E=>ldf oI E H rfl rfl rfl rfl rfl m0 U31 rfl nO fun a E=>al2 E H rfl Ni fun D w a H E=>pr 1 E rfl fun a E=>ss 0 E H rfl nO rfl fun w H=>nt<|aK (fun a w=>∃ q,Jn 55 a w [(0,o),(5,o),(6,.int .i64 (l.length:Int)),(7,.int .i64 p),(50,.bool q)] (Fo) rs (hX (eQ l m) p q=some r)) ?_ ?_
    ·obtain ⟨F,H⟩:=H.raw (t1 (c _ n))
     refine dw [(0,0),(1,0),(2,1),(3,0),(4,0),(5,0),(6,0),(7,0),(8,0),(9,0),(10,0),(11,0),(12,0),(13,0),(14,0),(15,0),(16,0),(17,0),(18,0),(19,0),(20,0),(21,0),(22,0),(23,0),(24,0),(25,0),(26,0),(27,0),(28,0),(29,0),(30,0),(31,0),(32,0),(33,0),(34,0),(35,0),(36,0),(37,0),(38,0)] [0] [0] H (by kernel_rfl) (fun _ _ _ h=>False.elim h.2) fun w W0 hI H=>fn 1 E rfl fun a E=>fb2 E m0 U9 rfl fun a E=>bI rfl<|bd hm fun G t hm=>xk2 E rfl (cf_ 83) (iL H t) fun w H a E=>nt<|⟨⟨_,_,H,(aM m0 (bC)),(aE m0 (bG))⟩,fn 2 E rfl fun a E=>cs hm (fun e hm=>?_) fun e hm=>?_⟩
     ·refine fk 34 E (kc 16 rfl e) rfl fun a E=>aY<|?_
      clear hI
      exact aA<|have H:=H.drop 0;⟨_,_,E.to rfl,H,(Y2 c),hm⟩
     ·refine fk 1 E (kc 16 rfl e) rfl fun a E=>fb E rfl (ws' (d:=16) E rfl rfl rfl rfl e) rfl rfl rfl rfl m0 rfl U2 rfl fun a E=>fk 3 E (kc 16 rfl e) rfl fun a E=>cs hm (fun f hm=>?_) fun f hm=>?_
      ·refine fk 29 E (kc 21 rfl f) rfl fun a E=>aY<|?_
       clear hI
       exact aA<|have H:=H.drop 0;⟨_,_,E.to rfl,H,(Y2 c),hm⟩
      ·refine fk 1 E (kc 21 rfl f) rfl fun a E=>fb E rfl (ws' (d:=21) E rfl rfl rfl rfl f) rfl rfl rfl rfl m0 rfl U2 rfl fun a E=>fk 3 E (kc 21 rfl f) rfl fun a E=>cs hm (fun g hm=>?_) fun g hm=>?_
       ·refine fk 24 E (kc 26 rfl g) rfl fun a E=>aY<|?_
        clear hI
        exact aA<|have H:=H.drop 0;⟨_,_,E.to rfl,H,(Y2 c),hm⟩
       ·refine fk 1 E (kc 26 rfl g) rfl fun a E=>fb E rfl (ws' (d:=26) E rfl rfl rfl rfl g) rfl rfl rfl rfl m0 rfl U3 rfl fun a E=>fk 3 E (kc 26 rfl g) rfl fun a E=>cs hm (fun i hm=>?_) fun i hm=>?_
        ·refine fk 19 E (kc 31 rfl i) rfl fun a E=>aY<|?_
         clear hI
         exact aA<|have H:=H.drop 0;⟨_,_,E.to rfl,H,(Y2 c),hm⟩
        ·refine fk 1 E (kc 31 rfl i) rfl fun a E=>fb E rfl (ws' (d:=31) E rfl rfl rfl rfl i) rfl rfl rfl rfl m0 rfl U3 rfl fun a E=>fk 3 E (kc 31 rfl i) rfl fun a E=>cs hm (fun j hm=>?_) fun j hm=>?_
         ·refine fk 14 E (kc 36 rfl j) rfl fun a E=>aY<|?_
          clear hI
          exact aA<|have H:=H.drop 0;⟨_,_,E.to rfl,H,(Y2 c),hm⟩
         ·refine fk 3 E (kc 36 rfl j) rfl fun a E=>cs hm (fun b hm=>?_) fun b hm=>?_
          ·refine fk 3 E (kc 39 rfl b) rfl fun a E=>bd hm fun I u hm=>?_
           obtain ⟨q25,J,x,y⟩:=gK (P:=Tryz.prog) (k:=.i64) hI (gD (.head _)) U32 nO u
           refine cZ E rfl (ws' (d:=39) E rfl rfl rfl rfl b) rfl rfl (fun w hW=>jQ E rfl rfl rfl (x w)) fun a E=>?_
           have z:=rO y (fun _ _ _ h=>yT h)
           refine fk 1 E (kc 39 rfl b) rfl fun a E=>fa E rfl (ws' (d:=39) E rfl rfl rfl rfl b) rfl rfl rfl rfl z U9 rfl fun a E=>fk 1 E (kc 39 rfl b) rfl fun a E=>fb E rfl (ws' (d:=39) E rfl rfl rfl rfl b) rfl rfl rfl rfl m0 rfl U9 rfl fun a E=>fk 3 E (kc' (kc 39 rfl b) 36 rfl j) rfl fun a E=>aY<|?_
           clear hI
           exact aA<|have H:=H.drop 0;⟨_,_,E.to rfl,H,(Y2 c),hm⟩
          ·refine fk 11 E (kc' (kc 39 rfl b) 36 rfl j) rfl fun a E=>aY<|?_
           clear hI
           exact aA<|have H:=H.drop 0;⟨_,_,E.to rfl,H,(Y2 c),hm⟩
    ·clear E H hm
     rintro a w ⟨q,B,E,H,s,hm⟩
     unfold hX at hm
     refine wif E hm rfl (fun hm=>?_) fun hm=>?_
     ·refine sq<|pn 1 E rfl fun a E=>wp_ret<|bF<|aG<|aG<|bF<|aG<|o1 E rfl<|?_
      cases hm
      exact ⟨rfl,H.reads s⟩
     ·exact wp_skip<|bH<|aA<|wp_region_lit<|pn 2 E rfl fun a E=>⟨m,Nat.lt_succ_self m,_,_,E.to rfl,H,s,hm⟩
   ·refine wp_exit<|aL<|aL<|cH<|aA<|sp 1 E rfl fun a E=>lS E H (c _ n) U32 rfl fun a E=>pr 2 E rfl fun a E=>nt<|wp_ret<|o1 E rfl<|?_
    cases hm
    exact ⟨rfl,H.reads c⟩

def wC(x1:aD):Option ByteArray:=
  some (x1.Path)
theorem V6{x1:aD}(H:Sep w (Fo) rs){r:ByteArray}(hm:wC x1=some r) :
    Cf 86 [.agg (dS x1).toArray] w fun v w'=>.string r=v∧Sep w' (Fo) (rs):=by
 unfold wC at hm
 refine ent Tryz.func86 rfl Tryz.ntmps86 rfl rfl fun a E=>sq<|bx E H rfl fun b w a H E=>pr 1 E rfl fun a E=>xp 1 E rfl fun a E=>lb2 E H 0 U9 rfl fun a E=>pn 1 E rfl fun a E=>wp_ret<|o1 E rfl<|have H:=H.drop 0;?_
 cases hm
 exact ⟨rfl,H.reads Y0⟩

def kO(rec_1:Int→Option Bool)(b:Int)(c:Bool):Option Bool:=
  if c=true then (some (false)) else (rec_1 (IntKind.i64.wrap (b+1)))
def eA(c:List aD):Nat→Int→Option Bool
  | 0,_=>none
  | d+1,b=>
    if (decide (b < (c.length:Int)))=true then (if (decide (b > 0))=true then ((idx c (IntKind.i64.wrap (b - 1))).bind fun e=>(idx c b).bind fun f=>(wC e).bind fun g=>(wC f).bind fun i=>kO (eA c d) b (!(sLt g i))) else (kO (eA c d) b false)) else (some (true))
def rK(b:List aD):Option Bool:=
  eA b (((b.length:Int) - 0:Int).toNat+1) 0
theorem R8{l:Value}{f:List aD}(H:Sep w (Fo) rs)(m:rSl aB l f ∈ rs){r:Bool}(hm:rK f=some r) :
    Cf 85 [l,.func (.func 86) #[] #[]] w fun v w'=>.bool r=v∧Sep w' (Fo) (rs):=by
 unfold rK at hm
 refine ent Tryz.func85 rfl Tryz.ntmps85 rfl rfl fun a E=>sq<|pn 1 E rfl fun a E=>wp_seq<|sp 1 E rfl fun a E=>lS E H m U22 rfl fun a E=>pr 1 E rfl fun a E=>nt<|wp_block<|bD (fun g a w=>∃ j,Jn 30 a w [(0,l),(1,.func (.func 86) #[] #[]),(7,.int .i64 (f.length:Int)),(8,.int .i64 j)] (Fo) rs (eA f g j=some r)) (((f.length:Int) - 0:Int).toNat+1) ?_ ?_
 ·exact ⟨_,_,E.to rfl,H,Y0,hm⟩
 ·clear E H hm
  rintro g a w ⟨j,A,E,H,i,hm⟩
  cases g with
  | zero=>exact (aZ hm rfl).elim
  | succ g=>
   unfold eA at hm
   refine sq<|pn 1 E rfl fun a E=>wp_seq<|wif E hm rfl (fun hm=>?_) fun hm=>?_
   ·refine wp_skip<|aA<|wp_seq<|wp_block<|sq<|pn 2 E rfl fun a E=>aK (fun a w=>∃ o,Jn 30 a w [(0,l),(1,.func (.func 86) #[] #[]),(7,.int .i64 (f.length:Int)),(8,.int .i64 j),(28,.bool o)] (Fo) rs (kO (eA f g) j o=some r)) ?_ ?_
    ·obtain ⟨B,H⟩:=H.raw (i _ m)
     refine dw [(0,0),(1,0),(2,0),(3,0),(4,0),(5,0),(6,0),(7,0),(8,0),(10,0),(11,0),(12,0),(13,0),(14,0),(9,1),(15,1),(16,0),(17,0)] [] [0] H (by kernel_rfl) (fun _ _ _ h=>False.elim h.2) fun w W0 hI H=>fn 3 E rfl fun a E=>cs hm (fun b hm=>?_) fun b hm=>?_
     ·refine fk 4 E (kc 13 rfl b) rfl fun a E=>bd hm fun c p hm=>?_
      obtain ⟨q14,C,q,s⟩:=gK (P:=Tryz.prog) (k:=.i64) hI (gD (.head _)) U22 cJ p
      refine cZ E rfl (ws' (d:=13) E rfl rfl rfl rfl b) rfl rfl (fun w hW=>jQ E rfl rfl rfl (q w)) fun a E=>cZ E rfl (ws' (d:=13) E rfl rfl rfl rfl b) rfl rfl (fun w hW=>pE E rfl rfl (v8 (cs:=[.string c.Path,.string c.Data,.int .i64 c.Version,.int .i64 c.Turn,.int .i64 c.Owner]) (DR.ir (C3 s)) (fun _ _ _ h=>sD h) pF rfl cJ w hW)) fun a E=>fk 3 E (kc 13 rfl b) rfl fun a E=>bd hm fun e t hm=>?_
      obtain ⟨q20,D,u,x⟩:=gK (P:=Tryz.prog) (k:=.i64) hI (gD (.head _)) U22 cJ t
      refine cZ E rfl (ws' (d:=13) E rfl rfl rfl rfl b) rfl rfl (fun w hW=>jQ E rfl rfl rfl (u w)) fun a E=>cZ E rfl (ws' (d:=13) E rfl rfl rfl rfl b) rfl rfl (fun w hW=>pE E rfl rfl (v8 (cs:=[.string e.Path,.string e.Data,.int .i64 e.Version,.int .i64 e.Turn,.int .i64 e.Owner]) (DR.ir (C3 x)) (fun _ _ _ h=>sD h) pF rfl cJ w hW)) fun a E=>bI rfl<|bd hm fun F y hm=>bM E (ws' (d:=13) E rfl rfl rfl rfl b) rfl rfl (bO E rfl rfl rfl ((cf_ 86) _)) (V6 H y)<|?_
      rintro _ w ⟨rfl,H⟩ a E
      refine nt<|⟨⟨_,_,H,(bC),(aE m0 (bG))⟩,bI rfl<|bd hm fun G z hm=>bM E (ws' (d:=13) E rfl rfl rfl rfl b) rfl rfl (bO E rfl rfl rfl ((cf_ 86) _)) (V6 H z)<|?_⟩
      rintro _ w ⟨rfl,H⟩ a E
      refine nt<|⟨⟨_,_,H,(bC),(aE m0 (bG))⟩,fk 2 E (kc 13 rfl b) rfl fun a E=>aY<|?_⟩
      clear hI
      exact aA<|⟨_,_,E.to rfl,H,(Y1 i),hm⟩
     ·refine fk 11 E (kc 13 rfl b) rfl fun a E=>bI rfl<|pk 1 E (kc 13 rfl b) rfl fun a E=>nt<|⟨⟨_,_,H,(bC),(aE m0 (bG))⟩,bI rfl<|pk 1 E (kc 13 rfl b) rfl fun a E=>nt<|⟨⟨_,_,H,(bC),(aE m0 (bG))⟩,fk 2 E (kc 13 rfl b) rfl fun a E=>aY<|?_⟩⟩
      clear hI
      exact aA<|⟨_,_,E.to rfl,H,(Y1 i),hm⟩
    ·clear E H hm
     rintro a w ⟨o,I,E,H,n,hm⟩
     unfold kO at hm
     refine wif E hm rfl (fun hm=>?_) fun hm=>?_
     ·refine sq<|pn 1 E rfl fun a E=>wp_ret<|bF<|aG<|aG<|bF<|aG<|o1 E rfl<|?_
      cases hm
      exact ⟨rfl,H.reads n⟩
     ·exact wp_skip<|bH<|aA<|wp_region_lit<|pn 2 E rfl fun a E=>⟨g,Nat.lt_succ_self g,_,_,E.to rfl,H,n,hm⟩
   ·refine wp_exit<|aL<|aL<|cH<|aA<|sq<|pn 1 E rfl fun a E=>wp_ret<|o1 E rfl<|?_
    cases hm
    exact ⟨rfl,H.reads i⟩

def wD(x1:aJ):Option ByteArray:=
  some (x1.Dir)
theorem V7{x1:aJ}(H:Sep w (Fo) rs){r:ByteArray}(hm:wD x1=some r) :
    Cf 88 [.agg #[.string x1.Dir,.int .i64 x1.Next]] w fun v w'=>.string r=v∧Sep w' (Fo) (rs):=by
 unfold wD at hm
 refine ent Tryz.func88 rfl Tryz.ntmps88 rfl rfl fun a E=>sq<|bx E H rfl fun b w a H E=>pr 1 E rfl fun a E=>xp 1 E rfl fun a E=>lb2 E H 0 U9 rfl fun a E=>pn 1 E rfl fun a E=>wp_ret<|o1 E rfl<|have H:=H.drop 0;?_
 cases hm
 exact ⟨rfl,H.reads Y0⟩

def kQ(rec_1:Int→Option Bool)(b:Int)(c:Bool):Option Bool:=
  if c=true then (some (false)) else (rec_1 (IntKind.i64.wrap (b+1)))
def eB(c:List aJ):Nat→Int→Option Bool
  | 0,_=>none
  | d+1,b=>
    if (decide (b < (c.length:Int)))=true then (if (decide (b > 0))=true then ((idx c (IntKind.i64.wrap (b - 1))).bind fun e=>(idx c b).bind fun f=>(wD e).bind fun g=>(wD f).bind fun i=>kQ (eB c d) b (!(sLt g i))) else (kQ (eB c d) b false)) else (some (true))
def rL(b:List aJ):Option Bool:=
  eB b (((b.length:Int) - 0:Int).toNat+1) 0
theorem R9{i:Value}{c:List aJ}(H:Sep w (Fo) rs)(j:rSl aC i c ∈ rs){r:Bool}(hm:rL c=some r) :
    Cf 87 [i,.func (.func 88) #[] #[]] w fun v w'=>.bool r=v∧Sep w' (Fo) (rs):=by
 unfold rL at hm
 refine ent Tryz.func87 rfl Tryz.ntmps87 rfl rfl fun a E=>sq<|pn 1 E rfl fun a E=>wp_seq<|sp 1 E rfl fun a E=>lS E H j U23 rfl fun a E=>pr 1 E rfl fun a E=>nt<|wp_block<|bD (fun e a w=>∃ g,Jn 30 a w [(0,i),(1,.func (.func 88) #[] #[]),(7,.int .i64 (c.length:Int)),(8,.int .i64 g)] (Fo) rs (eB c e g=some r)) (((c.length:Int) - 0:Int).toNat+1) ?_ ?_
 ·exact ⟨_,_,E.to rfl,H,Y0,hm⟩
 ·clear E H hm
  rintro e a w ⟨g,A,E,H,f,hm⟩
  cases e with
  | zero=>exact (aZ hm rfl).elim
  | succ e=>
   unfold eB at hm
   refine sq<|pn 1 E rfl fun a E=>wp_seq<|wif E hm rfl (fun hm=>?_) fun hm=>?_
   ·refine wp_skip<|aA<|wp_seq<|wp_block<|sq<|pn 2 E rfl fun a E=>aK (fun a w=>∃ o,Jn 30 a w [(0,i),(1,.func (.func 88) #[] #[]),(7,.int .i64 (c.length:Int)),(8,.int .i64 g),(28,.bool o)] (Fo) rs (kQ (eB c e) g o=some r)) ?_ ?_
    ·obtain ⟨B,H⟩:=H.raw (f _ j)
     refine dw [(0,0),(1,0),(2,0),(3,0),(4,0),(5,0),(6,0),(7,0),(8,0),(10,0),(11,0),(12,0),(13,0),(14,0),(9,1),(15,1),(16,0),(17,0)] [] [0] H (by kernel_rfl) (fun _ _ _ h=>False.elim h.2) fun w W0 hI H=>fn 3 E rfl fun a E=>cs hm (fun b hm=>?_) fun b hm=>?_
     ·refine fk 4 E (kc 13 rfl b) rfl fun a E=>bd hm fun l p hm=>?_
      obtain ⟨q14,C,q,s⟩:=gK (P:=Tryz.prog) (k:=.i64) hI (gD (.head _)) U23 iS p
      refine cZ E rfl (ws' (d:=13) E rfl rfl rfl rfl b) rfl rfl (fun w hW=>jQ E rfl rfl rfl (q w)) fun a E=>cZ E rfl (ws' (d:=13) E rfl rfl rfl rfl b) rfl rfl (fun w hW=>pE E rfl rfl (v8 (cs:=[.string l.Dir,.int .i64 l.Next]) (DR.ir (C3 s)) (fun _ _ _ h=>uQ h) U89 rfl iS w hW)) fun a E=>fk 3 E (kc 13 rfl b) rfl fun a E=>bd hm fun m t hm=>?_
      obtain ⟨q20,D,u,x⟩:=gK (P:=Tryz.prog) (k:=.i64) hI (gD (.head _)) U23 iS t
      refine cZ E rfl (ws' (d:=13) E rfl rfl rfl rfl b) rfl rfl (fun w hW=>jQ E rfl rfl rfl (u w)) fun a E=>cZ E rfl (ws' (d:=13) E rfl rfl rfl rfl b) rfl rfl (fun w hW=>pE E rfl rfl (v8 (cs:=[.string m.Dir,.int .i64 m.Next]) (DR.ir (C3 x)) (fun _ _ _ h=>uQ h) U89 rfl iS w hW)) fun a E=>bI rfl<|bd hm fun F y hm=>bM E (ws' (d:=13) E rfl rfl rfl rfl b) rfl rfl (bO E rfl rfl rfl ((cf_ 88) _)) (V7 H y)<|?_
      rintro _ w ⟨rfl,H⟩ a E
      refine nt<|⟨⟨_,_,H,(bC),(aE m0 (bG))⟩,bI rfl<|bd hm fun G z hm=>bM E (ws' (d:=13) E rfl rfl rfl rfl b) rfl rfl (bO E rfl rfl rfl ((cf_ 88) _)) (V7 H z)<|?_⟩
      rintro _ w ⟨rfl,H⟩ a E
      refine nt<|⟨⟨_,_,H,(bC),(aE m0 (bG))⟩,fk 2 E (kc 13 rfl b) rfl fun a E=>aY<|?_⟩
      clear hI
      exact aA<|⟨_,_,E.to rfl,H,(Y1 f),hm⟩
     ·refine fk 11 E (kc 13 rfl b) rfl fun a E=>bI rfl<|pk 1 E (kc 13 rfl b) rfl fun a E=>nt<|⟨⟨_,_,H,(bC),(aE m0 (bG))⟩,bI rfl<|pk 1 E (kc 13 rfl b) rfl fun a E=>nt<|⟨⟨_,_,H,(bC),(aE m0 (bG))⟩,fk 2 E (kc 13 rfl b) rfl fun a E=>aY<|?_⟩⟩
      clear hI
      exact aA<|⟨_,_,E.to rfl,H,(Y1 f),hm⟩
    ·clear E H hm
     rintro a w ⟨o,I,E,H,n,hm⟩
     unfold kQ at hm
     refine wif E hm rfl (fun hm=>?_) fun hm=>?_
     ·refine sq<|pn 1 E rfl fun a E=>wp_ret<|bF<|aG<|aG<|bF<|aG<|o1 E rfl<|?_
      cases hm
      exact ⟨rfl,H.reads n⟩
     ·exact wp_skip<|bH<|aA<|wp_region_lit<|pn 2 E rfl fun a E=>⟨e,Nat.lt_succ_self e,_,_,E.to rfl,H,n,hm⟩
   ·refine wp_exit<|aL<|aL<|cH<|aA<|sq<|pn 1 E rfl fun a E=>wp_ret<|o1 E rfl<|?_
    cases hm
    exact ⟨rfl,H.reads f⟩

def sI(x1:Int)(b:Int)(x3:Int):Option Bool:=
  if (decide (x1 ≥ b))=true then (some (decide (x1 ≤ x3))) else (some (false))
theorem J3{x1 c x3:Int}(H:Sep w (Fo) rs){r:Bool}(hm:sI x1 c x3=some r) :
    Cf 84 [.int .i64 x1,.int .i64 c,.int .i64 x3] w fun v w'=>.bool r=v∧Sep w' (Fo) (rs):=by
 unfold sI at hm
 refine ent Tryz.func84 rfl Tryz.ntmps84 rfl rfl fun a E=>sp 1 E rfl fun a E=>xp 4 E rfl fun a E=>cs hm (fun b hm=>?_) fun b hm=>?_
 ·refine pk 5 E (kc 10 rfl b) rfl fun a E=>nt<|wp_ret<|o1 E rfl<|?_
  cases hm
  exact ⟨rfl,H.reads Y0⟩
 ·refine pk 5 E (kc 10 rfl b) rfl fun a E=>nt<|wp_ret<|o1 E rfl<|?_
  cases hm
  exact ⟨rfl,H.reads Y0⟩

def uJ(d:ByteArray)(e:ByteArray)(x3:Int)(f:Int)(g:Int):Option Bool:=
  (dX d).bind fun i=>if i=true then (if (decide ((e.size:Int) ≤ 256))=true then ((sI x3 f 281474976710656).bind fun b=>if b=true then ((sI g 0 1099511627776).bind fun c=>some (c)) else (some (false))) else (some (false))) else (some (false))
theorem Av{g i:ByteArray}{x3 j k:Int}(H:Sep w (Fo) rs){r:Bool}(hm:uJ g i x3 j k=some r) :
    Cf 80 [.string g,.string i,.int .i64 x3,.int .i64 j,.int .i64 k] w fun v w'=>.bool r=v∧Sep w' (Fo) (rs):=by
 unfold uJ at hm
 refine ent Tryz.func80 rfl Tryz.ntmps80 rfl rfl fun a E=>sp 1 E rfl fun a E=>xp 1 E rfl fun a E=>bd hm fun o l hm=>xk2 E rfl (cf_ 83) (iL H l) fun w H a E=>pr 1 E rfl fun a E=>cs hm (fun d hm=>?_) fun d hm=>?_
 ·refine pk 5 E (kc 13 rfl d) rfl fun a E=>cs hm (fun c hm=>?_) fun c hm=>?_
  ·refine pk 2 E (kc 18 rfl c) rfl fun a E=>bd hm fun m e hm=>gc 18 E c rfl (cf_ 84) (J3 H e)<|?_
   rintro _ w ⟨rfl,H⟩ a E
   refine pk 2 E (kc 18 rfl c) rfl fun a E=>cs hm (fun b hm=>?_) fun b hm=>?_
   ·refine pk 1 E (kc 23 rfl b) rfl fun a E=>bd hm fun n f hm=>gc 23 E b rfl (cf_ 84) (J3 H f)<|?_
    rintro _ w ⟨rfl,H⟩ a E
    refine pk 2 E (kc 23 rfl b) rfl fun a E=>nt<|wp_ret<|o1 E rfl<|?_
    cases hm
    exact ⟨rfl,H.reads Y0⟩
   ·refine pk 4 E (kc 23 rfl b) rfl fun a E=>nt<|wp_ret<|o1 E rfl<|?_
    cases hm
    exact ⟨rfl,H.reads Y0⟩
  ·refine pk 9 E (kc 18 rfl c) rfl fun a E=>nt<|wp_ret<|o1 E rfl<|?_
   cases hm
   exact ⟨rfl,H.reads Y0⟩
 ·refine pk 14 E (kc 13 rfl d) rfl fun a E=>nt<|wp_ret<|o1 E rfl<|?_
  cases hm
  exact ⟨rfl,H.reads Y0⟩

def wE(x1:aD):Option Bool:=
  if (x1.Turn != 0)=true then (some (true)) else ((uJ x1.Path x1.Data x1.Version 0 x1.Owner).bind fun b=>some (!b))
theorem Jo{x1:aD}(H:Sep w (Fo) rs){r:Bool}(hm:wE x1=some r) :
    Cf 79 [.agg (dS x1).toArray] w fun v w'=>.bool r=v∧Sep w' (Fo) (rs):=by
 unfold wE at hm
 refine ent Tryz.func79 rfl Tryz.ntmps79 rfl rfl fun a E=>sq<|bx E H rfl fun d w a H E=>pr 1 E rfl fun a E=>xp 1 E rfl fun a E=>lb2 E H 0 U2 rfl fun a E=>pr 2 E rfl fun a E=>cs hm (fun b hm=>?_) fun b hm=>?_
 ·refine pk 12 E (kc 6 rfl b) rfl fun a E=>nt<|wp_ret<|o1 E rfl<|have H:=H.drop 0;?_
  cases hm
  exact ⟨rfl,H.reads Y0⟩
 ·refine pk 1 E (kc 6 rfl b) rfl fun a E=>gl 6 E H 0 b U9 rfl fun a E=>pk 1 E (kc 6 rfl b) rfl fun a E=>gl 6 E H 0 b U9 rfl fun a E=>pk 1 E (kc 6 rfl b) rfl fun a E=>gl 6 E H 0 b U2 rfl fun a E=>pk 1 E (kc 6 rfl b) rfl fun a E=>gl 6 E H 0 b U2 rfl fun a E=>bd hm fun e c hm=>gc 6 E b rfl (cf_ 80) (Av H c)<|?_
  rintro _ w ⟨rfl,H⟩ a E
  refine pk 3 E (kc 6 rfl b) rfl fun a E=>nt<|wp_ret<|o1 E rfl<|have H:=H.drop 0;?_
  cases hm
  exact ⟨rfl,H.reads Y0⟩

def dD(c:List aD):Nat→Int→Option Int
  | 0,_=>none
  | e+1,b=>
    if (decide (b < (c.length:Int)))=true then ((idx c b).bind fun f=>(wE f).bind fun d=>if d=true then (some (b)) else (dD c e (IntKind.i64.wrap (b+1)))) else (some ((-1)))
def gW(b:List aD):Option Int:=
  dD b (((b.length:Int) - 0:Int).toNat+1) 0
theorem zL{f:Value}{d:List aD}(H:Sep w (Fo) rs)(e:rSl aB f d ∈ rs){r:Int}(hm:gW d=some r) :
    Cf 142 [f,.func (.func 79) #[] #[]] w fun v w'=>.int .i64 r=v∧Sep w' (Fo) (rs):=by
 unfold gW at hm
 refine ent Tryz.func142 rfl Tryz.ntmps142 rfl rfl fun a E=>sq<|pn 1 E rfl fun a E=>wp_seq<|sp 1 E rfl fun a E=>lS E H e U22 rfl fun a E=>pr 1 E rfl fun a E=>nt<|wp_block<|bD (fun c a w=>∃ g,Jn 19 a w [(0,f),(1,.func (.func 79) #[] #[]),(7,.int .i64 (d.length:Int)),(8,.int .i64 g)] (Fo) rs (dD d c g=some r)) (((d.length:Int) - 0:Int).toNat+1) ?_ ?_
 ·exact ⟨_,_,E.to rfl,H,Y0,hm⟩
 ·clear E H hm
  rintro c a w ⟨g,k,E,H,b,hm⟩
  cases c with
  | zero=>exact (aZ hm rfl).elim
  | succ c=>
   unfold dD at hm
   refine sq<|pn 1 E rfl fun a E=>wp_seq<|wif E hm rfl (fun hm=>?_) fun hm=>?_
   ·refine wp_skip<|aA<|wp_seq<|wp_block<|sp 2 E rfl fun a E=>xp 3 E rfl fun a E=>bd hm fun m j hm=>cN E H (wn rfl) rfl rfl rfl rfl rfl (b _ e) U22 cJ j fun q9 a H E=>ldf bX E H rfl rfl rfl rfl rfl m0 pF rfl cJ fun a E=>bd hm fun l i hm=>bM E (wn rfl) rfl rfl (bO E rfl rfl rfl ((cf_ 79) _)) (Jo H i)<|?_
    rintro _ w ⟨rfl,H⟩ a E
    refine nt<|wif E hm rfl (fun hm=>?_) fun hm=>?_
    ·refine sq<|pn 2 E rfl fun a E=>wp_ret<|bF<|aG<|aG<|bF<|aG<|o1 E rfl<|?_
     cases hm
     exact ⟨rfl,H.reads (Y1 b)⟩
    ·exact wp_skip<|bH<|aA<|wp_region_lit<|pn 2 E rfl fun a E=>⟨c,Nat.lt_succ_self c,_,_,E.to rfl,H,(Y1 b),hm⟩
   ·refine wp_exit<|aL<|aL<|cH<|aA<|sq<|pn 1 E rfl fun a E=>wp_ret<|o1 E rfl<|?_
    cases hm
    exact ⟨rfl,H.reads b⟩

def fZ(b:List aD):Option Bool:=
  (gW b).bind fun c=>some (decide (c ≥ 0))
theorem xS{b:Value}{c:List aD}(H:Sep w (Fo) rs)(d:rSl aB b c ∈ rs){r:Bool}(hm:fZ c=some r) :
    Cf 78 [b,.func (.func 79) #[] #[]] w fun v w'=>.bool r=v∧Sep w' (Fo) (rs):=by
 unfold fZ at hm
 refine ent Tryz.func78 rfl Tryz.ntmps78 rfl rfl fun a E=>sp 1 E rfl fun a E=>xp 2 E rfl fun a E=>bd hm fun f e hm=>xk2 E rfl (cf_ 142) (zL H d e) fun w H a E=>pn 2 E rfl fun a E=>wp_ret<|o1 E rfl<|?_
 cases hm
 exact ⟨rfl,H.reads Y0⟩

def wF(x1:aJ):Option Bool:=
  (dX x1.Dir).bind fun b=>if (!b)=true then (some (true)) else ((sI x1.Next 1 10000).bind fun c=>some (!c))
theorem Jp{x1:aJ}(H:Sep w (Fo) rs){r:Bool}(hm:wF x1=some r) :
    Cf 82 [.agg #[.string x1.Dir,.int .i64 x1.Next]] w fun v w'=>.bool r=v∧Sep w' (Fo) (rs):=by
 unfold wF at hm
 refine ent Tryz.func82 rfl Tryz.ntmps82 rfl rfl fun a E=>sq<|bx E H rfl fun e w a H E=>pr 1 E rfl fun a E=>xp 1 E rfl fun a E=>lb2 E H 0 U9 rfl fun a E=>bd hm fun f c hm=>xk2 E rfl (cf_ 83) (iL H c) fun w H a E=>pr 2 E rfl fun a E=>cs hm (fun b hm=>?_) fun b hm=>?_
 ·refine pk 6 E (kc 7 rfl b) rfl fun a E=>nt<|wp_ret<|o1 E rfl<|have H:=H.drop 0;?_
  cases hm
  exact ⟨rfl,H.reads Y0⟩
 ·refine pk 1 E (kc 7 rfl b) rfl fun a E=>gl 7 E H 0 b U2 rfl fun a E=>bd hm fun g d hm=>gc 7 E b rfl (cf_ 84) (J3 H d)<|?_
  rintro _ w ⟨rfl,H⟩ a E
  refine pk 3 E (kc 7 rfl b) rfl fun a E=>nt<|wp_ret<|o1 E rfl<|have H:=H.drop 0;?_
  cases hm
  exact ⟨rfl,H.reads Y0⟩

def dE(c:List aJ):Nat→Int→Option Int
  | 0,_=>none
  | e+1,b=>
    if (decide (b < (c.length:Int)))=true then ((idx c b).bind fun f=>(wF f).bind fun d=>if d=true then (some (b)) else (dE c e (IntKind.i64.wrap (b+1)))) else (some ((-1)))
def gX(b:List aJ):Option Int:=
  dE b (((b.length:Int) - 0:Int).toNat+1) 0
theorem zM{f:Value}{d:List aJ}(H:Sep w (Fo) rs)(e:rSl aC f d ∈ rs){r:Int}(hm:gX d=some r) :
    Cf 143 [f,.func (.func 82) #[] #[]] w fun v w'=>.int .i64 r=v∧Sep w' (Fo) (rs):=by
 unfold gX at hm
 refine ent Tryz.func143 rfl Tryz.ntmps143 rfl rfl fun a E=>sq<|pn 1 E rfl fun a E=>wp_seq<|sp 1 E rfl fun a E=>lS E H e U23 rfl fun a E=>pr 1 E rfl fun a E=>nt<|wp_block<|bD (fun c a w=>∃ g,Jn 19 a w [(0,f),(1,.func (.func 82) #[] #[]),(7,.int .i64 (d.length:Int)),(8,.int .i64 g)] (Fo) rs (dE d c g=some r)) (((d.length:Int) - 0:Int).toNat+1) ?_ ?_
 ·exact ⟨_,_,E.to rfl,H,Y0,hm⟩
 ·clear E H hm
  rintro c a w ⟨g,k,E,H,b,hm⟩
  cases c with
  | zero=>exact (aZ hm rfl).elim
  | succ c=>
   unfold dE at hm
   refine sq<|pn 1 E rfl fun a E=>wp_seq<|wif E hm rfl (fun hm=>?_) fun hm=>?_
   ·refine wp_skip<|aA<|wp_seq<|wp_block<|sp 2 E rfl fun a E=>xp 3 E rfl fun a E=>bd hm fun m j hm=>cN E H (wn rfl) rfl rfl rfl rfl rfl (b _ e) U23 iS j fun q9 a H E=>ldf dT E H rfl rfl rfl rfl rfl m0 U89 rfl iS fun a E=>bd hm fun l i hm=>bM E (wn rfl) rfl rfl (bO E rfl rfl rfl ((cf_ 82) _)) (Jp H i)<|?_
    rintro _ w ⟨rfl,H⟩ a E
    refine nt<|wif E hm rfl (fun hm=>?_) fun hm=>?_
    ·refine sq<|pn 2 E rfl fun a E=>wp_ret<|bF<|aG<|aG<|bF<|aG<|o1 E rfl<|?_
     cases hm
     exact ⟨rfl,H.reads (Y1 b)⟩
    ·exact wp_skip<|bH<|aA<|wp_region_lit<|pn 2 E rfl fun a E=>⟨c,Nat.lt_succ_self c,_,_,E.to rfl,H,(Y1 b),hm⟩
   ·refine wp_exit<|aL<|aL<|cH<|aA<|sq<|pn 1 E rfl fun a E=>wp_ret<|o1 E rfl<|?_
    cases hm
    exact ⟨rfl,H.reads b⟩

def gA(b:List aJ):Option Bool:=
  (gX b).bind fun c=>some (decide (c ≥ 0))
theorem xT{b:Value}{c:List aJ}(H:Sep w (Fo) rs)(d:rSl aC b c ∈ rs){r:Bool}(hm:gA c=some r) :
    Cf 81 [b,.func (.func 82) #[] #[]] w fun v w'=>.bool r=v∧Sep w' (Fo) (rs):=by
 unfold gA at hm
 refine ent Tryz.func81 rfl Tryz.ntmps81 rfl rfl fun a E=>sp 1 E rfl fun a E=>xp 2 E rfl fun a E=>bd hm fun f e hm=>xk2 E rfl (cf_ 143) (zM H d e) fun w H a E=>pn 2 E rfl fun a E=>wp_ret<|o1 E rfl<|?_
 cases hm
 exact ⟨rfl,H.reads Y0⟩

def pP(x1:aF):Option Bool:=
  (fZ x1.Nodes).bind fun d=>(gA x1.Turns).bind fun e=>if (!d)=true then (if (!e)=true then ((rK x1.Nodes).bind fun b=>if b=true then ((rL x1.Turns).bind fun c=>some (c)) else (some (false))) else (some (false))) else (some (false))
theorem C7{x1:aF}{k l:Value}(H:Sep w (Fo) rs)(e:rSl aB k x1.Nodes ∈ rs)(f:rSl aC l x1.Turns ∈ rs){r:Bool}(hm:pP x1=some r) :
    Cf 37 [.agg #[k,l]] w fun v w'=>.bool r=v∧Sep w' (Fo) (rs):=by
 unfold pP at hm
 refine ent Tryz.func37 rfl Tryz.ntmps37 rfl rfl fun a E=>sq<|bx E H rfl fun p w a H E=>pr 1 E rfl fun a E=>xp 1 E rfl fun a E=>lb2 E H 0 U22 rfl fun a E=>bd hm fun q m hm=>xk2 E rfl (cf_ 78) (xS H e m) fun w H a E=>pr 1 E rfl fun a E=>xp 1 E rfl fun a E=>lb2 E H 0 U23 rfl fun a E=>bd hm fun s g hm=>xk2 E rfl (cf_ 81) (xT H f g) fun w H a E=>pr 1 E rfl fun a E=>xp 3 E rfl fun a E=>cs hm (fun d hm=>?_) fun d hm=>?_
 ·refine pk 4 E (kc 13 rfl d) rfl fun a E=>cs hm (fun b hm=>?_) fun b hm=>?_
  ·refine pk 1 E (kc 17 rfl b) rfl fun a E=>gl 17 E H 0 b U22 rfl fun a E=>bd hm fun n i hm=>gc 17 E b rfl (cf_ 85) (R8 H e i)<|?_
   rintro _ w ⟨rfl,H⟩ a E
   refine pk 2 E (kc 17 rfl b) rfl fun a E=>cs hm (fun c hm=>?_) fun c hm=>?_
   ·refine pk 1 E (kc 22 rfl c) rfl fun a E=>gl 22 E H 0 c U23 rfl fun a E=>bd hm fun o j hm=>gc 22 E c rfl (cf_ 87) (R9 H f j)<|?_
    rintro _ w ⟨rfl,H⟩ a E
    refine pk 2 E (kc 22 rfl c) rfl fun a E=>nt<|wp_ret<|o1 E rfl<|have H:=H.drop 0;?_
    cases hm
    exact ⟨rfl,H.reads Y0⟩
   ·refine pk 5 E (kc 22 rfl c) rfl fun a E=>nt<|wp_ret<|o1 E rfl<|have H:=H.drop 0;?_
    cases hm
    exact ⟨rfl,H.reads Y0⟩
  ·refine pk 10 E (kc 17 rfl b) rfl fun a E=>nt<|wp_ret<|o1 E rfl<|have H:=H.drop 0;?_
   cases hm
   exact ⟨rfl,H.reads Y0⟩
 ·refine pk 14 E (kc 13 rfl d) rfl fun a E=>nt<|wp_ret<|o1 E rfl<|have H:=H.drop 0;?_
  cases hm
  exact ⟨rfl,H.reads Y0⟩

def wG(x1:aF)(c:List aI)(b:Bool):Option (Option Nt):=
  if b=true then (some none) else (some (some (x1.Nodes,x1.Turns,c)))
def yA(x1:aF)(b:List aI):Option (Option Nt):=
  (pP x1).bind fun c=>if (!c)=true then (wG x1 b true) else ((qE b).bind fun d=>wG x1 b (!d))
theorem S1{x1:aF}{l m t:Value}{s:List aI}(H:Sep w (Fo) rs)(n:rSl aB l x1.Nodes ∈ rs)(o:rSl aC m x1.Turns ∈ rs)(p:rSl aR t s ∈ rs){r:Option Nt}(hm:yA x1 s=some r) :
    Cf 9 [.agg #[l,m],t] w fun v w'=>(r=none∧.pointer none=v∧Sep w' (Fo) rs)∨∃ y,r=some y∧∃ e z A B f i j,pt e 0=v∧Sep w' (Blk e 87 [z,A,B,nS,nS,nS,.map (some f),.map (some i),.map (some j)]::cG Tryz.prog 2 (kyI .i64) bY true f []::cG Tryz.prog 2 (kyI .i64) cY true i []::cG Tryz.prog 2 (kyI .i64) bY true j []::Fo) (rSl aB z y.1::rSl aC A y.2.1::rSl aR B y.2.2::rs):=by
 unfold yA at hm
 refine ent Tryz.func9 rfl Tryz.ntmps9 rfl rfl fun a E=>sq<|bx E H rfl fun C w a H E=>pn 1 E rfl fun a E=>wp_seq<|aK (fun a w=>∃ q,Jn 20 a w [(1,t),(2,pt C 0),(12,.bool q)] (Blk C 25 [l,m]::Fo) rs (wG x1 s q=some r)) ?_ ?_
 ·refine wp_region_lit<|ln 0 [l,m] E H U25 rfl bK fun a E=>bd hm fun N u hm=>xk2 E rfl (cf_ 37) (C7 H n o u) fun w H a E=>pr 2 E rfl fun a E=>cs hm (fun c hm=>?_) fun c hm=>?_
  ·exact pk 4 E (kc 8 rfl c) rfl fun a E=>nt<|⟨_,_,E.to rfl,H,Y0,hm⟩
  ·refine pk 1 E (kc 8 rfl c) rfl fun a E=>bd hm fun O x hm=>gc 8 E c rfl (cf_ 38) (J2 H p x)<|?_
   rintro _ w ⟨rfl,H⟩ a E
   exact pk 2 E (kc 8 rfl c) rfl fun a E=>nt<|⟨_,_,E.to rfl,H,Y0,hm⟩
 ·clear E H hm
  rintro a w ⟨q,M,E,H,b,hm⟩
  unfold wG at hm
  refine wif E hm rfl (fun hm=>?_) fun hm=>?_
  ·refine sq<|pn 1 E rfl fun a E=>wp_ret<|aG<|o1 E rfl<|have H:=H.drop 0;?_
   cases hm
   exact .inl ⟨rfl,rfl,H.reads (b)⟩
  ·refine wp_skip<|aA<|sq<|ln 0 [l,m] E H U25 rfl bK fun a E=>pr 1 E rfl fun a E=>xY (k:=2) (K:=(kyI .i64)) (d:=bY) (g:=true) E H (wn rfl) rfl rfl rfl fun D w a H E=>xY (k:=2) (K:=(kyI .i64)) (d:=cY) (g:=true) E H (wn rfl) rfl rfl rfl fun F w a H E=>xY (k:=2) (K:=(kyI .i64)) (d:=bY) (g:=true) E H (wn rfl) rfl rfl rfl fun G w a H E=>?_
   obtain ⟨q16,I,rfl⟩:=H.slform (b _ n)
   obtain ⟨q18,J,rfl⟩:=H.slform (b _ o)
   obtain ⟨q20,L,rfl⟩:=H.slform (b _ p)
   refine sv2 E rfl (bP E rfl (E.evs rfl) (v:=.agg #[(.slice q16 x1.Nodes.length I),(.slice q18 x1.Turns.length J),(.slice q20 s.length L),nS,nS,nS,.map (some D),.map (some F),.map (some G)]) (by kernel_rfl)) fun a E=>bx E H rfl fun P w a H E=>pn 1 E rfl fun a E=>wp_ret<|o1 E rfl<|have H:=H.drop 4;have H:=H.frs [1,2,3,3] rfl;?_
   cases hm
   exact .inr ⟨_,rfl,X7 ⟨rfl,H.reads (aE (b _ n) (aE (b _ o) (aE (b _ p) (b))))⟩⟩

def I2:Option (Option Nt):=
  (yA (⟨([(⟨(ByteArray.mk #[47]),(ByteArray.mk #[]),0,0,0⟩:aD)]:List aD),[]⟩:aF) ([(⟨(ByteArray.mk #[47]),1,1⟩:aI)]:List aI)).bind fun c=>Fi c (some none) fun b=>some (some (b.1,b.2.1,b.2.2))
theorem Ce(H:Sep w (Fo) rs){r:Option Nt}(hm:I2=some r) :
    Cf 35 [] w fun v w'=>(r=none∧.pointer none=v∧Sep w' (Fo) rs)∨∃ y,r=some y∧∃ b j k l c f g,pt b 0=v∧Sep w' (Blk b 87 [j,k,l,nS,nS,nS,.map (some c),.map (some f),.map (some g)]::cG Tryz.prog 2 (kyI .i64) bY true c []::cG Tryz.prog 2 (kyI .i64) cY true f []::cG Tryz.prog 2 (kyI .i64) bY true g []::Fo) (rSl aB j y.1::rSl aC k y.2.1::rSl aR l y.2.2::rs):=by
 unfold I2 at hm
 refine ent Tryz.func35 rfl Tryz.ntmps35 rfl rfl fun a E=>sp 1 E rfl fun a E=>nx<|sv2 E rfl (bP E rfl (E.evs rfl) (v:=.agg #[.string (ByteArray.mk #[47]),.string (ByteArray.mk #[]),.int .i64 0,.int .i64 0,.int .i64 0]) (by kernel_rfl)) fun a E=>gU (e:=107) (d:=aB) (cs:=[.string (ByteArray.mk #[47]),.string (ByteArray.mk #[]),.int .i64 0,.int .i64 0,.int .i64 0]) (xs:=[(⟨(ByteArray.mk #[47]),(ByteArray.mk #[]),0,0,0⟩:aD)]) E H (wn rfl) rfl rfl rfl (E.evs rfl) (by kernel_rfl) rfl rfl (fun ok hr=>(Rows.single (d:=aB) (cs:=[.string (ByteArray.mk #[47]),.string (ByteArray.mk #[]),.int .i64 0,.int .i64 0,.int .i64 0]) (x:=(⟨(ByteArray.mk #[47]),(ByteArray.mk #[]),0,0,0⟩:aD)) mE)) fun t w a H E=>?_
 obtain ⟨q2,x3,rfl⟩:=H.rowform (i:=0) rfl
 refine sv2 E rfl (bP E rfl (E.evs rfl) (v:=.agg #[(.slice q2 ([(⟨(ByteArray.mk #[47]),(ByteArray.mk #[]),0,0,0⟩:aD)]:List aD).length x3),nS]) (by kernel_rfl)) fun a E=>sv2 E rfl (bP E rfl (E.evs rfl) (v:=.agg #[.string (ByteArray.mk #[47]),.int .i64 1,.int .i64 1]) (by kernel_rfl)) fun a E=>gU (e:=31) (d:=aR) (cs:=[.string (ByteArray.mk #[47]),.int .i64 1,.int .i64 1]) (xs:=[(⟨(ByteArray.mk #[47]),1,1⟩:aI)]) E H (wn rfl) rfl rfl rfl (E.evs rfl) (by kernel_rfl) rfl rfl (fun ok hr=>(Rows.single (d:=aR) (cs:=[.string (ByteArray.mk #[47]),.int .i64 1,.int .i64 1]) (x:=(⟨(ByteArray.mk #[47]),1,1⟩:aI)) wA)) fun u w a H E=>have H:=H.thaw (i:=1) rfl;have H:=H.nilSl aC;have H:=H.thaw (i:=0) rfl;bd hm fun z m hm=>xc2 E rfl (cf_ 9) (S1 (x1:=(⟨([(⟨(ByteArray.mk #[47]),(ByteArray.mk #[]),0,0,0⟩:aD)]:List aD),[]⟩:aF)) H mm2 mm1 m0 m)<|?_
 rintro _ w (⟨rfl,rfl,H⟩ | ⟨n,rfl,A,B,C,o,p,q,s,rfl,H⟩) a E
 ·replace hm:=Hc hm
  refine pn 1 E rfl fun a E=>wp_ret<|o1 E rfl<|?_
  cases hm
  exact .inl ⟨rfl,rfl,H.reads (fun r hr=>(t3 hr))⟩
 ·replace hm:=Hd hm
  refine pn 1 E rfl fun a E=>wp_ret<|o1 E rfl<|?_
  cases hm
  exact .inr ⟨_,rfl,X7 ⟨rfl,H.rdx [0,1,2] rfl (fun r hr=>(t6 hr))⟩⟩

def uR(b:ByteArray):Option Bool:=
  if (sEq b (ByteArray.mk #[]))=true then (some (true)) else ((dX b).bind fun c=>some (c))
theorem P6{c:ByteArray}(H:Sep w (Fo) rs){r:Bool}(hm:uR c=some r) :
    Cf 123 [.string c] w fun v w'=>.bool r=v∧Sep w' (Fo) (rs):=by
 unfold uR at hm
 refine ent Tryz.func123 rfl Tryz.ntmps123 rfl rfl fun a E=>sp 1 E rfl fun a E=>xp 3 E rfl fun a E=>cs hm (fun b hm=>?_) fun b hm=>?_
 ·refine pk 4 E (kc 5 rfl b) rfl fun a E=>nt<|wp_ret<|o1 E rfl<|?_
  cases hm
  exact ⟨rfl,H.reads Y0⟩
 ·refine pk 1 E (kc 5 rfl b) rfl fun a E=>bd hm fun e d hm=>gc 5 E b rfl (cf_ 83) (iL H d)<|?_
  rintro _ w ⟨rfl,H⟩ a E
  refine pk 2 E (kc 5 rfl b) rfl fun a E=>nt<|wp_ret<|o1 E rfl<|?_
  cases hm
  exact ⟨rfl,H.reads Y0⟩

def nA(rec_1:Int→Option Bool)(c:Int)(b:Bool):Option Bool:=
  if b=true then (some (false)) else (rec_1 (IntKind.i64.wrap (c+1)))
def iF(b:List Int):Nat→Int→Option Bool
  | 0,_=>none
  | d+1,c=>
    if (decide (c < (b.length:Int)))=true then ((idx b c).bind fun e=>if (decide (e < 0))=true then (nA (iF b d) c true) else (nA (iF b d) c (decide (e > 281474976710656)))) else (some (true))
def tJ(b:List Int):Option Bool:=
  iF b (((b.length:Int) - 0:Int).toNat+1) 0
theorem Gg{j:Value}{b:List Int}(H:Sep w (Fo) rs)(k:rSl (kI .i64) j b ∈ rs){r:Bool}(hm:tJ b=some r) :
    Cf 122 [j] w fun v w'=>.bool r=v∧Sep w' (Fo) (rs):=by
 unfold tJ at hm
 refine ent Tryz.func122 rfl Tryz.ntmps122 rfl rfl fun a E=>sq<|pn 1 E rfl fun a E=>wp_seq<|sp 1 E rfl fun a E=>lS E H k U46 rfl fun a E=>pr 1 E rfl fun a E=>nt<|wp_block<|bD (fun c a w=>∃ f,Jn 18 a w [(5,j),(6,.int .i64 (b.length:Int)),(7,.int .i64 f)] (Fo) rs (iF b c f=some r)) (((b.length:Int) - 0:Int).toNat+1) ?_ ?_
 ·exact ⟨_,_,E.to rfl,H,Y0,hm⟩
 ·clear E H hm
  rintro c a w ⟨f,n,E,H,e,hm⟩
  cases c with
  | zero=>exact (aZ hm rfl).elim
  | succ c=>
   unfold iF at hm
   refine sq<|pn 1 E rfl fun a E=>wp_seq<|wif E hm rfl (fun hm=>?_) fun hm=>?_
   ·refine wp_skip<|aA<|wp_seq<|wp_block<|sq<|bd hm fun o l hm=>cN E H (wn rfl) rfl rfl rfl rfl rfl (e _ k) U46 sz2 l fun q9 a H E=>sv2 E rfl (pJ E H rfl rfl m0 U2 rfl) fun a E=>pr 1 E rfl fun a E=>nt<|aK (fun a w=>∃ g,Jn 18 a w [(5,j),(6,.int .i64 (b.length:Int)),(7,.int .i64 f),(16,.bool g)] (Fo) rs (nA (iF b c) f g=some r)) ?_ ?_
    ·refine wp_region_lit<|pr 3 E rfl fun a E=>cs hm (fun d hm=>?_) fun d hm=>?_
     ·exact pk 3 E (kc 13 rfl d) rfl fun a E=>nt<|⟨_,_,E.to rfl,H,(Y1 e),hm⟩
     ·exact pk 3 E (kc 13 rfl d) rfl fun a E=>nt<|⟨_,_,E.to rfl,H,(Y1 e),hm⟩
    ·clear E H hm
     rintro a w ⟨g,m,E,H,i,hm⟩
     unfold nA at hm
     refine wif E hm rfl (fun hm=>?_) fun hm=>?_
     ·refine sq<|pn 1 E rfl fun a E=>wp_ret<|bF<|aG<|aG<|bF<|aG<|o1 E rfl<|?_
      cases hm
      exact ⟨rfl,H.reads i⟩
     ·exact wp_skip<|bH<|aA<|wp_region_lit<|pn 2 E rfl fun a E=>⟨c,Nat.lt_succ_self c,_,_,E.to rfl,H,i,hm⟩
   ·refine wp_exit<|aL<|aL<|cH<|aA<|sq<|pn 1 E rfl fun a E=>wp_ret<|o1 E rfl<|?_
    cases hm
    exact ⟨rfl,H.reads e⟩

def uK(x1:aQ)(b:ByteArray):Option Bool:=
  (uJ x1.Path x1.Data x1.Version (-1) x1.Owner).bind fun c=>if c=true then (if (sEq x1.Dir b)=true then (if (decide (x1.Kind ≥ 1))=true then (if (decide (x1.Kind ≤ 10))=true then (if (x1.Kind != 2)=true then (some (true)) else (some (!(sEq x1.Path (ByteArray.mk #[47]))))) else (some (false))) else (some (false))) else (some (false))) else (some (false))
def uL(x1:aQ)(c:ByteArray)(b:Bool):Option Bool:=
  if b=true then (uK x1 x1.Path) else (uK x1 c)
def q7(x1:aQ):Option Bool:=
  (zK x1.Path).bind fun b=>if (x1.Kind == 4)=true then (uL x1 b true) else (if (x1.Kind == 9)=true then (uL x1 b true) else (uL x1 b (x1.Kind == 10)))
theorem Ih{x1:aQ}(H:Sep w (Fo) rs){r:Bool}(hm:q7 x1=some r) :
    Cf 121 [.agg (bE x1).toArray] w fun v w'=>.bool r=v∧Sep w' (Fo) (rs):=by
 unfold q7 at hm
 refine ent Tryz.func121 rfl Tryz.ntmps121 rfl rfl fun a E=>sq<|bx E H rfl fun m w a H E=>pr 1 E rfl fun a E=>xp 1 E rfl fun a E=>lb2 E H 0 U9 rfl fun a E=>bd hm fun o p hm=>xk2 E rfl (cf_ 201) (Cc H p) fun w H a E=>pn 1 E rfl fun a E=>aK (fun a w=>∃ n,Jn 57 a w [(1,pt m 0),(3,.string n)] (Blk m 97 (bE x1)::Fo) rs (uK x1 n=some r)) ?_ ?_
 ·refine aK (fun a w=>∃ k,Jn 57 a w [(1,pt m 0),(3,.string o),(19,.bool k)] (Blk m 97 (bE x1)::Fo) rs (uL x1 o k=some r)) ?_ ?_
  ·refine wp_region_lit<|pr 1 E rfl fun a E=>lb2 E H 0 U3 rfl fun a E=>pr 2 E rfl fun a E=>cs hm (fun c hm=>?_) fun c hm=>?_
   ·exact pk 9 E (kc 10 rfl c) rfl fun a E=>nt<|⟨_,_,E.to rfl,H,Y0,hm⟩
   ·refine pk 1 E (kc 10 rfl c) rfl fun a E=>gl 10 E H 0 c U3 rfl fun a E=>pk 3 E (kc 10 rfl c) rfl fun a E=>cs hm (fun d hm=>?_) fun d hm=>?_
    ·exact pk 4 E (kc 15 rfl d) rfl fun a E=>nt<|⟨_,_,E.to rfl,H,Y0,hm⟩
    ·exact pk 1 E (kc 15 rfl d) rfl fun a E=>gl 15 E H 0 d U3 rfl fun a E=>pk 2 E (kc 15 rfl d) rfl fun a E=>nt<|⟨_,_,E.to rfl,H,Y0,hm⟩
  ·clear E H hm
   rintro a w ⟨k,s,E,H,l,hm⟩
   unfold uL at hm
   refine wif E hm rfl (fun hm=>?_) fun hm=>?_
   ·exact wp_region_lit<|pr 1 E rfl fun a E=>lb2 E H 0 U9 rfl fun a E=>pn 1 E rfl fun a E=>⟨_,_,E.to rfl,H,l,hm⟩
   ·exact wp_skip<|aA<|⟨_,_,E.to rfl,H,l,hm⟩
 ·clear E H hm
  rintro a w ⟨n,t,E,H,j,hm⟩
  unfold uK at hm
  refine sp 1 E rfl fun a E=>lb2 E H 0 U9 rfl fun a E=>pr 1 E rfl fun a E=>lb2 E H 0 U9 rfl fun a E=>pr 1 E rfl fun a E=>lb2 E H 0 U2 rfl fun a E=>pr 1 E rfl fun a E=>lb2 E H 0 U2 rfl fun a E=>bd hm fun u q hm=>xk2 E rfl (cf_ 80) (Av H q) fun w H a E=>pr 1 E rfl fun a E=>cs hm (fun e hm=>?_) fun e hm=>?_
  ·refine pk 1 E (kc 31 rfl e) rfl fun a E=>gl 31 E H 0 e U9 rfl fun a E=>pk 4 E (kc 31 rfl e) rfl fun a E=>cs hm (fun f hm=>?_) fun f hm=>?_
   ·refine pk 1 E (kc 37 rfl f) rfl fun a E=>gl 37 E H 0 f U3 rfl fun a E=>pk 3 E (kc 37 rfl f) rfl fun a E=>cs hm (fun g hm=>?_) fun g hm=>?_
    ·refine pk 1 E (kc 42 rfl g) rfl fun a E=>gl 42 E H 0 g U3 rfl fun a E=>pk 3 E (kc 42 rfl g) rfl fun a E=>cs hm (fun b hm=>?_) fun b hm=>?_
     ·refine pk 1 E (kc 47 rfl b) rfl fun a E=>gl 47 E H 0 b U3 rfl fun a E=>pk 2 E (kc 47 rfl b) rfl fun a E=>cs hm (fun i hm=>?_) fun i hm=>?_
      ·refine pk 6 E (kc' (kc 51 rfl i) 47 rfl b) rfl fun a E=>nt<|wp_ret<|o1 E rfl<|have H:=H.drop 0;?_
       cases hm
       exact ⟨rfl,H.reads j⟩
      ·refine pk 1 E (kc 51 rfl i) rfl fun a E=>gl 51 E H 0 i U9 rfl fun a E=>pk 4 E (kc' (kc 51 rfl i) 47 rfl b) rfl fun a E=>nt<|wp_ret<|o1 E rfl<|have H:=H.drop 0;?_
       cases hm
       exact ⟨rfl,H.reads j⟩
     ·refine pk 10 E (kc 47 rfl b) rfl fun a E=>nt<|wp_ret<|o1 E rfl<|have H:=H.drop 0;?_
      cases hm
      exact ⟨rfl,H.reads j⟩
    ·refine pk 15 E (kc 42 rfl g) rfl fun a E=>nt<|wp_ret<|o1 E rfl<|have H:=H.drop 0;?_
     cases hm
     exact ⟨rfl,H.reads j⟩
   ·refine pk 20 E (kc 37 rfl f) rfl fun a E=>nt<|wp_ret<|o1 E rfl<|have H:=H.drop 0;?_
    cases hm
    exact ⟨rfl,H.reads j⟩
  ·refine pk 26 E (kc 31 rfl e) rfl fun a E=>nt<|wp_ret<|o1 E rfl<|have H:=H.drop 0;?_
   cases hm
   exact ⟨rfl,H.reads j⟩

def jK(b:ByteArray)(c:ByteArray):Option Bool:=
  if (decide ((b.size:Int) ≥ (c.size:Int)))=true then ((ck (0 ≤ (IntKind.i64.wrap ((b.size:Int) - (c.size:Int)))∧(IntKind.i64.wrap ((b.size:Int) - (c.size:Int))) ≤ b.size)).bind fun d=>some (sEq (b.extract (IntKind.i64.wrap ((b.size:Int) - (c.size:Int))).toNat b.size) c)) else (some (false))
theorem z8{c d:ByteArray}(H:Sep w (Fo) rs){r:Bool}(hm:jK c d=some r) :
    Cf 285 [.string c,.string d] w fun v w'=>.bool r=v∧Sep w' (Fo) (rs):=by
 unfold jK at hm
 refine ent Tryz.func285 rfl Tryz.ntmps285 rfl rfl fun a E=>sp 1 E rfl fun a E=>xp 6 E rfl fun a E=>cs hm (fun b hm=>?_) fun b hm=>?_
 ·refine pk 6 E (kc 10 rfl b) rfl fun a E=>bk hm fun e hm=>gv 10 E b rfl (T9 E rfl rfl rfl U9 e) fun a E=>pk 4 E (kc 10 rfl b) rfl fun a E=>nt<|wp_ret<|o1 E rfl<|?_
  cases hm
  exact ⟨rfl,H.reads Y0⟩
 ·refine pk 11 E (kc 10 rfl b) rfl fun a E=>nt<|wp_ret<|o1 E rfl<|?_
  cases hm
  exact ⟨rfl,H.reads Y0⟩

def iR(b:ByteArray)(c:ByteArray):Option ByteArray:=
  (jK b c).bind fun d=>if d=true then ((ck (0 ≤ (IntKind.i64.wrap ((b.size:Int) - (c.size:Int)))∧(IntKind.i64.wrap ((b.size:Int) - (c.size:Int))) ≤ b.size)).bind fun e=>some (b.extract 0 (IntKind.i64.wrap ((b.size:Int) - (c.size:Int))).toNat)) else (some (b))
theorem w6{b c:ByteArray}(H:Sep w (Fo) rs){r:ByteArray}(hm:iR b c=some r) :
    Cf 218 [.string b,.string c] w fun v w'=>.string r=v∧Sep w' (Fo) (rs):=by
 unfold iR at hm
 refine ent Tryz.func218 rfl Tryz.ntmps218 rfl rfl fun a E=>sq<|pn 1 E rfl fun a E=>wp_seq<|sp 2 E rfl fun a E=>bd hm fun f d hm=>xk2 E rfl (cf_ 285) (z8 H d) fun w H a E=>nt<|wif E hm rfl (fun hm=>?_) fun hm=>?_
 ·refine sp 6 E rfl fun a E=>bk hm fun e hm=>sv2 E rfl (Bk E rfl rfl rfl U9 e) fun a E=>pn 1 E rfl fun a E=>wp_ret<|aG<|o1 E rfl<|?_
  cases hm
  exact ⟨rfl,H.reads Y0⟩
 ·refine wp_skip<|aA<|sq<|pn 2 E rfl fun a E=>wp_ret<|o1 E rfl<|?_
  cases hm
  exact ⟨rfl,H.reads Y0⟩

def eS(b:ByteArray)(c:ByteArray):Option ByteArray:=
  (iR b c).bind fun d=>some (d)
theorem C8{b c:ByteArray}(H:Sep w (Fo) rs){r:ByteArray}(hm:eS b c=some r) :
    Cf 136 [.string b,.string c] w fun v w'=>.string r=v∧Sep w' (Fo) (rs):=by
 unfold eS at hm
 refine ent Tryz.func136 rfl Tryz.ntmps136 rfl rfl fun a E=>sp 1 E rfl fun a E=>xp 2 E rfl fun a E=>bd hm fun e d hm=>xk2 E rfl (cf_ 218) (w6 H d) fun w H a E=>pn 1 E rfl fun a E=>wp_ret<|o1 E rfl<|?_
 cases hm
 exact ⟨rfl,H.reads Y0⟩

def zN(d:ByteArray)(e:ByteArray)(f:Bool):Option Bool:=
  if f=true then (some (false)) else ((eS d (ByteArray.mk #[47])).bind fun g=>(iE e g).bind fun b=>if b.2=true then (if (sEq b.1 (ByteArray.mk #[]))=true then (some (true)) else ((idx b.1.data.toList 0).bind fun c=>some ((c.toNat:Int) == 47))) else (some (false)))
def zO(b:ByteArray)(c:ByteArray):Option Bool:=
  (dX b).bind fun d=>if (!d)=true then (zN c b true) else ((dX c).bind fun e=>zN c b (!e))
theorem Cg{f g:ByteArray}(H:Sep w (Fo) rs){r:Bool}(hm:zO f g=some r) :
    Cf 65 [.string f,.string g] w fun v w'=>.bool r=v∧Sep w' (Fo) (rs):=by
 unfold zO at hm
 refine ent Tryz.func65 rfl Tryz.ntmps65 rfl rfl fun a E=>sq<|pn 1 E rfl fun a E=>wp_seq<|aK (fun a w=>∃ i,Jn 32 a w [(0,.string f),(1,.string g),(14,.bool i)] (Fo) rs (zN g f i=some r)) ?_ ?_
 ·refine wp_region_lit<|pr 1 E rfl fun a E=>bd hm fun o j hm=>xk2 E rfl (cf_ 83) (iL H j) fun w H a E=>pr 2 E rfl fun a E=>cs hm (fun b hm=>?_) fun b hm=>?_
  ·exact pk 4 E (kc 10 rfl b) rfl fun a E=>nt<|⟨_,_,E.to rfl,H,Y0,hm⟩
  ·refine pk 1 E (kc 10 rfl b) rfl fun a E=>bd hm fun p k hm=>gc 10 E b rfl (cf_ 83) (iL H k)<|?_
   rintro _ w ⟨rfl,H⟩ a E
   exact pk 2 E (kc 10 rfl b) rfl fun a E=>nt<|⟨_,_,E.to rfl,H,Y0,hm⟩
 ·clear E H hm
  rintro a w ⟨i,q,E,H,e,hm⟩
  unfold zN at hm
  refine wif E hm rfl (fun hm=>?_) fun hm=>?_
  ·refine sq<|pn 1 E rfl fun a E=>wp_ret<|aG<|o1 E rfl<|?_
   cases hm
   exact ⟨rfl,H.reads e⟩
  ·refine wp_skip<|aA<|sp 2 E rfl fun a E=>bd hm fun t m hm=>xk2 E rfl (cf_ 136) (C8 H m) fun w H a E=>bd hm fun u n hm=>xk2 E rfl (cf_ 135) (D8 H n) fun w H a E=>pr 5 E rfl fun a E=>xp 2 E rfl fun a E=>cs hm (fun c hm=>?_) fun c hm=>?_
   ·refine pk 3 E (kc 23 rfl c) rfl fun a E=>cs hm (fun d hm=>?_) fun d hm=>?_
    ·refine pk 6 E (kc' (kc 26 rfl d) 23 rfl c) rfl fun a E=>nt<|wp_ret<|o1 E rfl<|?_
     cases hm
     exact ⟨rfl,H.reads e⟩
    ·refine pk 1 E (kc 26 rfl d) rfl fun a E=>bd hm fun s l hm=>gv 26 E d rfl (Bj E rfl rfl rfl U9 l) fun a E=>pk 4 E (kc' (kc 26 rfl d) 23 rfl c) rfl fun a E=>nt<|wp_ret<|o1 E rfl<|?_
     cases hm
     exact ⟨rfl,H.reads e⟩
   ·refine pk 9 E (kc 23 rfl c) rfl fun a E=>nt<|wp_ret<|o1 E rfl<|?_
    cases hm
    exact ⟨rfl,H.reads e⟩

def lV(rec_1:Int→Int→Option Bool)(b:bV)(c:Int)(d:Bool):Option Bool:=
  if d=true then (some (false)) else (rec_1 b.Op (IntKind.i64.wrap (c+1)))
def oO(rec_2:Int→Option Bool)(b:Int)(c:Bool):Option Bool:=
  if c=true then (some (false)) else (rec_2 (IntKind.i64.wrap (b+1)))
def lW(x1:aS)(b:Bool):Option Bool:=
  if b=true then (if (decide ((x1.Gone.length:Int) ≤ 32))=true then ((pP x1.Store).bind fun c=>if c=true then (if (decide ((x1.Store.Nodes.length:Int) ≤ 512))=true then (some (decide ((x1.Store.Turns.length:Int) ≤ 512))) else (some (false))) else (some (false))) else (some (false))) else (some (false))
def jA(x1:aS)(b:Bool):Option Bool:=
  if b=true then ((tJ ([x1.Id,x1.Txn,x1.Age,x1.Epoch,x1.Watch.Session,x1.Watch.Num]:List Int)).bind fun c=>if c=true then ((uR x1.Prefix).bind fun d=>if d=true then ((uR x1.Watch.Path).bind fun e=>lW x1 e) else (lW x1 false)) else (lW x1 false)) else (lW x1 false)
def fS(x1:aS):Nat→Int→Option Bool
  | 0,_=>none
  | d+1,b=>
    if (decide (b < (x1.Gone.length:Int)))=true then ((idx x1.Gone b).bind fun c=>(zO c x1.Prefix).bind fun e=>if (!e)=true then (oO (fS x1 d) b true) else (if (sEq c x1.Prefix)=true then (oO (fS x1 d) b true) else (if (decide (b > 0))=true then ((idx x1.Gone (IntKind.i64.wrap (b - 1))).bind fun f=>oO (fS x1 d) b (!(sLt f c))) else (oO (fS x1 d) b false)))) else (if (decide (x1.Kind ≥ 1))=true then (if (decide (x1.Kind ≤ 13))=true then (if (decide (x1.To ≥ 0))=true then (if (decide (x1.To < 4))=true then (jA x1 (decide ((x1.Pieces.length:Int) ≤ 16))) else (jA x1 false)) else (jA x1 false)) else (jA x1 false)) else (jA x1 false))
def eW(x1:aS):Nat→Int→Int→Option Bool
  | 0,_,_=>none
  | d+1,e,c=>
    if (decide (c < (x1.Pieces.length:Int)))=true then ((idx x1.Pieces c).bind fun b=>if (decide (b.Op < e))=true then (lV (eW x1 d) b c true) else (if (decide (b.Op ≥ 8))=true then (lV (eW x1 d) b c true) else ((q7 b.Part).bind fun f=>if (!f)=true then (lV (eW x1 d) b c true) else (lV (eW x1 d) b c (decide (b.Part.Version ≥ 281474976710656)))))) else (fS x1 (((x1.Gone.length:Int) - 0:Int).toNat+1) 0)
def uS(x1:aS):Option Bool:=
  eW x1 (((x1.Pieces.length:Int) - 0:Int).toNat+1) 0 0
theorem Ii{x1:aS}{F I J G:Value}(H:Sep w (Fo) rs)(Q:rSl bN F x1.Pieces ∈ rs)(Z:rSl aB I x1.Store.Nodes ∈ rs)(b0:rSl aC J x1.Store.Turns ∈ rs)(P:rSl kS G x1.Gone ∈ rs){r:Bool}(hm:uS x1=some r) :
    Cf 52 [.agg (aX x1 F I J G).toArray] w fun v w'=>.bool r=v∧Sep w' (Fo) (rs):=by
 unfold uS at hm
 refine ent Tryz.func52 rfl Tryz.ntmps52 rfl rfl fun a E=>sq<|bx E H rfl fun g w a H E=>pr 1 E rfl fun a E=>nx<|pn 1 E rfl fun a E=>wp_seq<|sq<|pr 1 E rfl fun a E=>lb2 E H 0 U26 rfl fun a E=>lS E H Q U26 rfl fun a E=>pn 1 E rfl fun a E=>wp_block<|bD (fun N a w=>∃ R L,Jn 154 a w [(1,pt g 0),(3,.int .i64 R),(10,F),(11,.int .i64 (x1.Pieces.length:Int)),(12,.int .i64 L)] (Blk g 37 (aX x1 F I J G)::Fo) rs (eW x1 N R L=some r)) (((x1.Pieces.length:Int) - 0:Int).toNat+1) ?_ ?_
 ·exact X3 ⟨E.to rfl,H,Y0,hm⟩
 ·clear E H hm
  rintro N a w ⟨R,L,c1,E,H,k,hm⟩
  cases N with
  | zero=>exact (aZ hm rfl).elim
  | succ N=>
   unfold eW at hm
   refine sq<|pn 1 E rfl fun a E=>wp_seq<|wif E hm rfl (fun hm=>?_) fun hm=>?_
   ·refine wp_skip<|aA<|wp_seq<|wp_block<|sq<|bd hm fun S b2 hm=>cN E H (wn rfl) rfl rfl rfl rfl rfl (k _ Q) U26 C5 b2 fun q17 a H E=>ldf wZ E H rfl rfl rfl rfl rfl m0 U99 rfl C5 fun a E=>al2 E H rfl Rz fun b1 w a H E=>ss 0 E H rfl C5 rfl fun w H=>nt<|wp_seq<|aK (fun a w=>∃ T,Jn 154 a w [(1,pt g 0),(5,pt b1 0),(10,F),(11,.int .i64 (x1.Pieces.length:Int)),(12,.int .i64 L),(36,.bool T)] (Blk g 37 (aX x1 F I J G)::Blk b1 99 (Es S)::Fo) rs (lV (eW x1 N) S L T=some r)) ?_ ?_
    ·refine wp_region_lit<|pr 1 E rfl fun a E=>lb2 E H 0 U3 rfl fun a E=>pr 3 E rfl fun a E=>cs hm (fun u hm=>?_) fun u hm=>?_
     ·exact pk 16 E (kc 20 rfl u) rfl fun a E=>nt<|have H:=H.frs [0,1] rfl;⟨_,_,E.to rfl,H,(Y1 k),hm⟩
     ·refine pk 1 E (kc 20 rfl u) rfl fun a E=>gl 20 E H 0 u U3 rfl fun a E=>pk 3 E (kc 20 rfl u) rfl fun a E=>cs hm (fun l hm=>?_) fun l hm=>?_
      ·exact pk 11 E (kc 25 rfl l) rfl fun a E=>nt<|have H:=H.frs [0,1] rfl;⟨_,_,E.to rfl,H,(Y1 k),hm⟩
      ·refine pk 1 E (kc 25 rfl l) rfl fun a E=>gv 25 E l rfl (B8 (i:=0) (us:=(bE S.Part)) E H rfl rfl rfl rfl U97 rfl hU) fun a E=>bd hm fun c7 b3 hm=>gc 25 E l rfl (cf_ 121) (Ih H b3)<|?_
       rintro _ w ⟨rfl,H⟩ a E
       refine pk 3 E (kc 25 rfl l) rfl fun a E=>cs hm (fun y hm=>?_) fun y hm=>?_
       ·exact pk 5 E (kc 31 rfl y) rfl fun a E=>nt<|have H:=H.frs [0,1] rfl;⟨_,_,E.to rfl,H,(Y1 k),hm⟩
       ·exact pk 2 E (kc 31 rfl y) rfl fun a E=>gl 31 E H 0 y U2 rfl fun a E=>pk 2 E (kc 31 rfl y) rfl fun a E=>nt<|have H:=H.frs [0,1] rfl;⟨_,_,E.to rfl,H,(Y1 k),hm⟩
    ·clear E H hm
     rintro a w ⟨T,c2,E,H,U,hm⟩
     unfold lV at hm
     refine wif E hm rfl (fun hm=>?_) fun hm=>?_
     ·refine sq<|pn 1 E rfl fun a E=>wp_ret<|aG<|bF<|aG<|aG<|bF<|aG<|o1 E rfl<|have H:=H.drs [0,0];?_
      cases hm
      exact ⟨rfl,H.reads U⟩
     ·exact wp_skip<|aA<|wp_region_lit<|pr 1 E rfl fun a E=>lb2 E H 1 U3 rfl fun a E=>pr 1 E rfl fun a E=>wpList_nil<|bH<|aA<|wp_region_lit<|pn 2 E rfl fun a E=>have H:=H.drop 1;⟨N,Nat.lt_succ_self N,X3 ⟨E.to rfl,H,U,hm⟩⟩
   ·refine wp_exit<|aL<|aL<|cH<|aA<|wp_seq<|sp 1 E rfl fun a E=>lb2 E H 0 U33 rfl fun a E=>lS E H (k _ P) U33 rfl fun a E=>pn 1 E rfl fun a E=>wp_block<|bD (fun O a w=>∃ M,Jn 154 a w [(1,pt g 0),(41,G),(42,.int .i64 (x1.Gone.length:Int)),(43,.int .i64 M)] (Blk g 37 (aX x1 F I J G)::Fo) rs (fS x1 O M=some r)) (((x1.Gone.length:Int) - 0:Int).toNat+1) ?_ ?_
    ·exact ⟨_,_,E.to rfl,H,k,hm⟩
    ·clear E H hm
     rintro O a w ⟨M,c3,E,H,c,hm⟩
     cases O with
     | zero=>exact (aZ hm rfl).elim
     | succ O=>
      unfold fS at hm
      refine sq<|pn 1 E rfl fun a E=>wp_seq<|wif E hm rfl (fun hm=>?_) fun hm=>?_
      ·refine wp_skip<|aA<|wp_seq<|wp_block<|sp 1 E rfl fun a E=>bd hm fun c8 b4 hm=>cN E H (wn rfl) rfl rfl rfl rfl rfl (c _ P) U33 sz9 b4 fun q32 a H E=>sv2 E rfl (pJ E H rfl rfl m0 U9 rfl) fun a E=>pn 2 E rfl fun a E=>aK (fun a w=>∃ V,Jn 154 a w [(1,pt g 0),(41,G),(42,.int .i64 (x1.Gone.length:Int)),(43,.int .i64 M),(72,.bool V)] (Blk g 37 (aX x1 F I J G)::Fo) rs (oO (fS x1 O) M V=some r)) ?_ ?_
       ·refine wp_region_lit<|pr 2 E rfl fun a E=>lb2 E H 0 U9 rfl fun a E=>bd hm fun c9 b5 hm=>xk2 E rfl (cf_ 65) (Cg H b5) fun w H a E=>pr 2 E rfl fun a E=>cs hm (fun z hm=>?_) fun z hm=>?_
        ·exact pk 19 E (kc 53 rfl z) rfl fun a E=>nt<|⟨_,_,E.to rfl,H,(Y1 c),hm⟩
        ·refine pk 2 E (kc 53 rfl z) rfl fun a E=>gl 53 E H 0 z U9 rfl fun a E=>pk 3 E (kc 53 rfl z) rfl fun a E=>cs hm (fun A hm=>?_) fun A hm=>?_
         ·exact pk 13 E (kc 59 rfl A) rfl fun a E=>nt<|⟨_,_,E.to rfl,H,(Y1 c),hm⟩
         ·refine pk 3 E (kc 59 rfl A) rfl fun a E=>cs hm (fun j hm=>?_) fun j hm=>?_
          ·exact pk 1 E (kc 62 rfl j) rfl fun a E=>gl 62 E H 0 j U33 rfl fun a E=>pk 2 E (kc 62 rfl j) rfl fun a E=>bd hm fun d0 b6 hm=>cN E H (ws' (d:=62) E rfl rfl rfl rfl j) rfl rfl rfl rfl rfl (t1 (c _ P)) U33 sz9 b6 fun q43 a H E=>gv 62 E j rfl (pJ E H rfl rfl m0 U9 rfl) fun a E=>pk 4 E (kc' (kc 62 rfl j) 59 rfl A) rfl fun a E=>nt<|⟨_,_,E.to rfl,H,(Y2 c),hm⟩
          ·exact pk 10 E (kc' (kc 62 rfl j) 59 rfl A) rfl fun a E=>nt<|⟨_,_,E.to rfl,H,(Y1 c),hm⟩
       ·clear E H hm
        rintro a w ⟨V,c4,E,H,W,hm⟩
        unfold oO at hm
        refine wif E hm rfl (fun hm=>?_) fun hm=>?_
        ·refine sq<|pn 1 E rfl fun a E=>wp_ret<|bF<|aG<|aG<|bF<|aG<|o1 E rfl<|have H:=H.drop 0;?_
         cases hm
         exact ⟨rfl,H.reads W⟩
        ·exact wp_skip<|bH<|aA<|wp_region_lit<|pn 2 E rfl fun a E=>⟨O,Nat.lt_succ_self O,_,_,E.to rfl,H,W,hm⟩
      ·refine wp_exit<|aL<|aL<|cH<|aA<|aK (fun a w=>∃ X,Jn 154 a w [(1,pt g 0),(8,.bool X)] (Blk g 37 (aX x1 F I J G)::Fo) rs (jA x1 X=some r)) ?_ ?_
       ·refine wp_region_lit<|pr 1 E rfl fun a E=>lb2 E H 0 U3 rfl fun a E=>pr 2 E rfl fun a E=>cs hm (fun B hm=>?_) fun B hm=>?_
        ·refine pk 1 E (kc 77 rfl B) rfl fun a E=>gl 77 E H 0 B U3 rfl fun a E=>pk 3 E (kc 77 rfl B) rfl fun a E=>cs hm (fun C hm=>?_) fun C hm=>?_
         ·refine pk 1 E (kc 82 rfl C) rfl fun a E=>gl 82 E H 0 C U3 rfl fun a E=>pk 3 E (kc 82 rfl C) rfl fun a E=>cs hm (fun D hm=>?_) fun D hm=>?_
          ·refine pk 1 E (kc 87 rfl D) rfl fun a E=>gl 87 E H 0 D U3 rfl fun a E=>pk 3 E (kc 87 rfl D) rfl fun a E=>cs hm (fun m hm=>?_) fun m hm=>?_
           ·exact pk 1 E (kc 92 rfl m) rfl fun a E=>gl 92 E H 0 m U26 rfl fun a E=>gv 92 E m rfl (uN E H rfl rfl (c _ Q) U26) fun a E=>pk 3 E (kc 92 rfl m) rfl fun a E=>nt<|⟨_,_,E.to rfl,H,c,hm⟩
           ·exact pk 6 E (kc 92 rfl m) rfl fun a E=>nt<|⟨_,_,E.to rfl,H,c,hm⟩
          ·exact pk 11 E (kc 87 rfl D) rfl fun a E=>nt<|⟨_,_,E.to rfl,H,c,hm⟩
         ·exact pk 16 E (kc 82 rfl C) rfl fun a E=>nt<|⟨_,_,E.to rfl,H,c,hm⟩
        ·exact pk 21 E (kc 77 rfl B) rfl fun a E=>nt<|⟨_,_,E.to rfl,H,c,hm⟩
       ·clear E H hm
        rintro a w ⟨X,c5,E,H,K,hm⟩
        unfold jA at hm
        refine aK (fun a w=>∃ Y,Jn 154 a w [(1,pt g 0),(8,.bool Y)] (Blk g 37 (aX x1 F I J G)::Fo) rs (lW x1 Y=some r)) ?_ ?_
        ·refine wp_region_lit<|pr 2 E rfl fun a E=>cs hm (fun b hm=>?_) fun b hm=>?_
         ·refine pk 1 E (kc 99 rfl b) rfl fun a E=>gl 99 E H 0 b U2 rfl fun a E=>pk 1 E (kc 99 rfl b) rfl fun a E=>gl 99 E H 0 b U2 rfl fun a E=>pk 1 E (kc 99 rfl b) rfl fun a E=>gl 99 E H 0 b U2 rfl fun a E=>pk 1 E (kc 99 rfl b) rfl fun a E=>gl 99 E H 0 b U2 rfl fun a E=>pk 2 E (kc 99 rfl b) rfl fun a E=>gl 99 E H 0 b U2 rfl fun a E=>pk 2 E (kc 99 rfl b) rfl fun a E=>gl 99 E H 0 b U2 rfl fun a E=>gU (e:=2) (d:=(kI .i64)) (cs:=[.int .i64 x1.Id,.int .i64 x1.Txn,.int .i64 x1.Age,.int .i64 x1.Epoch,.int .i64 x1.Watch.Session,.int .i64 x1.Watch.Num]) (xs:=[x1.Id,x1.Txn,x1.Age,x1.Epoch,x1.Watch.Session,x1.Watch.Num]) E H (ws' (d:=99) E rfl rfl rfl rfl b) rfl rfl rfl (E.evs rfl) (by kernel_rfl) rfl rfl (fun ok hr=>(Rows.append (Rows.append (Rows.append (Rows.append (Rows.append (Rows.single (d:=(kI .i64)) (cs:=[.int .i64 x1.Id]) (x:=x1.Id) rfl) (Rows.single (d:=(kI .i64)) (cs:=[.int .i64 x1.Txn]) (x:=x1.Txn) rfl)) (Rows.single (d:=(kI .i64)) (cs:=[.int .i64 x1.Age]) (x:=x1.Age) rfl)) (Rows.single (d:=(kI .i64)) (cs:=[.int .i64 x1.Epoch]) (x:=x1.Epoch) rfl)) (Rows.single (d:=(kI .i64)) (cs:=[.int .i64 x1.Watch.Session]) (x:=x1.Watch.Session) rfl)) (Rows.single (d:=(kI .i64)) (cs:=[.int .i64 x1.Watch.Num]) (x:=x1.Watch.Num) rfl))) fun d1 w a H E=>have H:=H.thaw (i:=0) rfl;bd hm fun d2 b7 hm=>gc 99 E b rfl (cf_ 122) (Gg H m0 b7)<|?_
          rintro _ w ⟨rfl,H⟩ a E
          refine pk 2 E (kc 99 rfl b) rfl fun a E=>cs hm (fun n hm=>?_) fun n hm=>?_
          ·refine pk 1 E (kc 117 rfl n) rfl fun a E=>gl 117 E H 0 n U9 rfl fun a E=>bd hm fun d3 b8 hm=>gc 117 E n rfl (cf_ 123) (P6 H b8)<|?_
           rintro _ w ⟨rfl,H⟩ a E
           refine pk 2 E (kc 117 rfl n) rfl fun a E=>cs hm (fun o hm=>?_) fun o hm=>?_
           ·refine pk 2 E (kc 122 rfl o) rfl fun a E=>gl 122 E H 0 o U9 rfl fun a E=>bd hm fun d4 b9 hm=>gc 122 E o rfl (cf_ 123) (P6 H b9)<|?_
            rintro _ w ⟨rfl,H⟩ a E
            exact pk 2 E (kc 122 rfl o) rfl fun a E=>nt<|⟨_,_,E.to rfl,H,(Y1 K),hm⟩
           ·exact pk 6 E (kc 122 rfl o) rfl fun a E=>nt<|⟨_,_,E.to rfl,H,(Y1 K),hm⟩
          ·exact pk 11 E (kc 117 rfl n) rfl fun a E=>nt<|⟨_,_,E.to rfl,H,(Y1 K),hm⟩
         ·exact pk 29 E (kc 99 rfl b) rfl fun a E=>nt<|⟨_,_,E.to rfl,H,K,hm⟩
        ·clear E H hm
         rintro a w ⟨Y,c6,E,H,f,hm⟩
         unfold lW at hm
         refine sp 2 E rfl fun a E=>cs hm (fun p hm=>?_) fun p hm=>?_
         ·refine pk 1 E (kc 129 rfl p) rfl fun a E=>gl 129 E H 0 p U33 rfl fun a E=>gv 129 E p rfl (uN E H rfl rfl (f _ P) U33) fun a E=>pk 3 E (kc 129 rfl p) rfl fun a E=>cs hm (fun q hm=>?_) fun q hm=>?_
          ·refine pk 1 E (kc 135 rfl q) rfl fun a E=>gv 135 E q rfl (B8 (i:=0) (us:=[I,J]) E H rfl rfl rfl rfl U25 rfl bK) fun a E=>bd hm fun d5 c0 hm=>gc 135 E q rfl (cf_ 37) (C7 H (f _ Z) (f _ b0) c0)<|?_
           rintro _ w ⟨rfl,H⟩ a E
           refine pk 2 E (kc 135 rfl q) rfl fun a E=>cs hm (fun s hm=>?_) fun s hm=>?_
           ·refine pk 2 E (kc 140 rfl s) rfl fun a E=>gl 140 E H 0 s U22 rfl fun a E=>gv 140 E s rfl (uN E H rfl rfl (f _ Z) U22) fun a E=>pk 3 E (kc 140 rfl s) rfl fun a E=>cs hm (fun t hm=>?_) fun t hm=>?_
            ·refine pk 2 E (kc 147 rfl t) rfl fun a E=>gl 147 E H 0 t U23 rfl fun a E=>gv 147 E t rfl (uN E H rfl rfl (f _ b0) U23) fun a E=>pk 3 E (kc 147 rfl t) rfl fun a E=>nt<|wp_ret<|o1 E rfl<|have H:=H.drop 0;?_
             cases hm
             exact ⟨rfl,H.reads f⟩
            ·refine pk 7 E (kc 147 rfl t) rfl fun a E=>nt<|wp_ret<|o1 E rfl<|have H:=H.drop 0;?_
             cases hm
             exact ⟨rfl,H.reads f⟩
           ·refine pk 14 E (kc 140 rfl s) rfl fun a E=>nt<|wp_ret<|o1 E rfl<|have H:=H.drop 0;?_
            cases hm
            exact ⟨rfl,H.reads f⟩
          ·refine pk 19 E (kc 135 rfl q) rfl fun a E=>nt<|wp_ret<|o1 E rfl<|have H:=H.drop 0;?_
           cases hm
           exact ⟨rfl,H.reads f⟩
         ·refine pk 25 E (kc 129 rfl p) rfl fun a E=>nt<|wp_ret<|o1 E rfl<|have H:=H.drop 0;?_
          cases hm
          exact ⟨rfl,H.reads f⟩

def fC(x1:Int):Option aW:=
  some ((⟨x1,0,false,0,[],(⟨[],[]⟩:aF),[],[],[]⟩:aW))
theorem gP{x1:Int}(H:Sep w (Fo) rs){r:aW}(hm:fC x1=some r) :
    Cf 53 [.int .i64 x1] w fun v w'=>∃ b c d e f g,.agg (bJ r b c d e f g).toArray=v∧Sep w' (Fo) (rSl aU b r.Results::rSl aB c r.Store.Nodes::rSl aC d r.Store.Turns::rSl aT e r.Events::rSl bU f r.Mounts::rSl (kI .i64) g r.Wounded::rs):=by
 unfold fC at hm
 refine ent Tryz.func53 rfl Tryz.ntmps53 rfl rfl fun a E=>sq<|al2 E H rfl tI fun i w a H E=>xp 1 E rfl fun a E=>sv2 E rfl (bP E rfl (E.evs rfl) (v:=.agg #[.int .i64 x1,.int .i64 0,.bool false,.int .i64 0,nS,nS,nS,nS,nS,nS]) (by kernel_rfl)) fun a E=>ss 0 E H rfl cV rfl fun w H=>nt<|wp_ret<|oB 0 [.int .i64 x1,.int .i64 0,.bool false,.int .i64 0,nS,nS,nS,nS,nS,nS] E H U48 rfl cV<|have H:=H.nilSl aU;have H:=H.nilSl aB;have H:=H.nilSl aC;have H:=H.nilSl aT;have H:=H.nilSl bU;have H:=H.nilSl (kI .i64);have H:=H.drop 0;?_
 cases hm
 exact X6 ⟨rfl,H.rdx [5,4,3,2,1,0] rfl (fun r hr=>(t6 hr))⟩

def qG(x20:aS)(b:x6):Option Sd:=
  (Rv (kyI .i64) b x20.Txn zJ).bind fun c=>some (c,b)
def uC(x20:aS)(b:List tU)(c:Bool):Option Sd:=
  if (!c)=true then (if ((b.length:Int) == 128)=true then ((fC 2).bind fun d=>some (d,b)) else ((mpt (kyI .i64) b x20.Txn (⟨0,0,x20.Yes,x20.Epoch,[],(⟨[],[]⟩:aF),[],[],[]⟩:aW)).bind fun e=>qG x20 e)) else (qG x20 b)
def xC(b:List tU)(x20:aS):Option Sd:=
  (Fk (kyI .i64) b x20.Txn zJ).bind fun c=>uC x20 b c.2
theorem Ab{d b:Nat}{u:List tU}{x20:aS}{o p q s e f g j k l m n:Value}(H:Sep w (Blk d 87 [e,f,g,j,k,l,m,n,.map (some b)]::cG Tryz.prog 2 (kyI .i64) bY true b u::Fo) rs){r:aW×x6}(hm:xC u x20=some r) :
    Cf 45 [pt d 0,.agg (aX x20 o p q s).toArray] w fun v w'=>∃ G I J L M N,.agg (bJ r.1 G I J L M N).toArray=v∧Sep w' (Blk d 87 [e,f,g,j,k,l,m,n,.map (some b)]::cG Tryz.prog 2 (kyI .i64) bY true b r.2::Fo) (rSl aU G r.1.Results::rSl aB I r.1.Store.Nodes::rSl aC J r.1.Store.Turns::rSl aT L r.1.Events::rSl bU M r.1.Mounts::rSl (kI .i64) N r.1.Wounded::rs):=by
 unfold xC at hm
 refine ent Tryz.func45 rfl Tryz.ntmps45 rfl rfl fun a E=>sq<|bx E H rfl fun c w a H E=>al2 E H rfl tI fun x w a H E=>nt<|aK (fun a w=>∃ y,Jn 44 a w [(0,pt d 0),(3,pt c 0),(4,pt x 0)] (Blk d 87 [e,f,g,j,k,l,m,n,.map (some b)]::Blk c 37 (aX x20 o p q s)::Blk x 48 dC::cG Tryz.prog 2 (kyI .i64) bY true b y::Fo) rs (qG x20 y=some r)) ?_ ?_
 ·refine aK (fun a w=>∃ z,Jn 44 a w [(0,pt d 0),(3,pt c 0),(4,pt x 0),(6,.bool z)] (Blk d 87 [e,f,g,j,k,l,m,n,.map (some b)]::Blk c 37 (aX x20 o p q s)::Blk x 48 dC::cG Tryz.prog 2 (kyI .i64) bY true b u::Fo) rs (uC x20 u z=some r)) ?_ ?_
  ·refine bd hm fun c2 A hm=>?_
   have hI:dZ [Blk c 37 (aX x20 o p q s),Blk d 87 [e,f,g,j,k,l,m,n,.map (some b)]] [] { w with drawn:=w.drawn+1 }:=⟨_,_,H.kept (Kp.drawn _ w _),(aM mm1 (aM mm2 (bC))),(bG)⟩
   refine wV _ (.go 0 0 (.go 1 0 (.go 2 0 (.go 3 0 (.go 4 0 (.go 5 0 (.alt 6 (.go 7 0 (.go 8 0 (.go 9 0 (.go 10 1 (.go 11 1 (.go 12 2 .nil)))))) 10 (.go 6 1 (.go 7 0 (.go 8 0 (.go 9 0 (.go 11 1 (.go 12 2 .nil))))))))))))) [12] xZ (by kernel_rfl) (fun _ _ _ h=>False.elim h.2) hI<|have H:=H.kept (Kp.drawn _ w (w.drawn+1));?_
   generalize ({ w with drawn:=w.drawn+1 }:World)=w at H hI ⊢
   replace hI:∃ W,dZ [Blk c 37 (aX x20 o p q s),Blk d 87 [e,f,g,j,k,l,m,n,.map (some b)]] [] W:=⟨_,hI⟩
   obtain ⟨W0,hI⟩:=hI
   refine om E rfl fun a E=>ov E rfl (fun w hW=>(K4 E rfl rfl)) fun a E=>ov E rfl (fun w hW=>yC E rfl rfl (v:=pt d 8) (Uf _ _)) fun a E=>ol E mm1 U84 rfl fun a E=>ov E rfl (fun w hW=>yC E rfl rfl (v:=pt c 2) (Hr _ _)) fun a E=>ol E m0 U2 rfl fun a E=>uO rfl rfl ?_ ?_
   ·refine zH (i:=3) (K:=(kyI .i64)) E H (wn rfl) rfl rfl rfl rfl rfl rfl (iW U2) U84 Ht Np A fun c3 a H E=>?_
    obtain ⟨c4,c5,c6,c7,c8,c9,rfl,h⟩:=zI H;clear H;have H:=h
    refine nt<|⟨sx H [1,2] rfl,om E rfl fun a E=>ox E rfl fun a E=>ox E rfl fun a E=>dK rfl<|al2 E H rfl tI fun d0 w a H E=>nt<|⟨sx H [2,3] rfl,dK rfl<|ss 0 E H rfl cV (bR H mm5 mm4 mm3 mm2 mm1 m0) fun w H=>nt<|⟨sx H [2,3] rfl,eL rfl<|pn 1 E rfl fun a E=>iK<|?_⟩⟩⟩
    clear hI
    exact aA<|have H:=H.drop 0;have H:=H.frs [3,1,2,3] rfl;⟨_,_,E.to rfl,H,(Y7 Y0),hm⟩
   ·refine al2 E H rfl tI fun d1 w a H E=>nt<|⟨sx H [2,3] rfl,dK rfl<|zH (i:=4) (K:=(kyI .i64)) E H (wn rfl) rfl rfl rfl rfl rfl rfl (iW U2) U84 Ht Np A fun b3 a H E=>?_⟩
    obtain ⟨b4,b5,b6,b7,b8,b9,rfl,h⟩:=zI H;clear H;have H:=h
    refine nt<|⟨sx H [2,3] rfl,om E rfl fun a E=>ox E rfl fun a E=>ox E rfl fun a E=>dK rfl<|ss 0 E H rfl cV (bR H mm5 mm4 mm3 mm2 mm1 m0) fun w H=>nt<|⟨sx H [2,3] rfl,eL rfl<|pn 1 E rfl fun a E=>iK<|?_⟩⟩
    clear hI
    exact aA<|have H:=H.drop 0;have H:=H.frs [3,1,2,3] rfl;⟨_,_,E.to rfl,H,(Y7 Y0),hm⟩
  ·clear E H hm
   rintro a w ⟨z,c0,E,H,t,hm⟩
   unfold uC at hm
   refine sq<|pn 2 E rfl fun a E=>wif E hm rfl (fun hm=>?_) fun hm=>?_
   ·refine wp_seq<|sp 3 E rfl fun a E=>lb2 E H 0 U84 rfl fun a E=>sv2 E rfl (Bt (i:=3) E H rfl rfl rfl U84) fun a E=>pn 1 E rfl fun a E=>wif E hm rfl (fun hm=>?_) fun hm=>?_
    ·refine sq<|bd hm fun O B hm=>xc2 E rfl (cf_ 53) (gP H B)<|?_
     rintro _ w ⟨P,Q,R,S,T,U,rfl,H⟩ a E
     refine ss 2 E H rfl cV (bR H m0 mm1 mm2 mm3 mm4 mm5) fun w H=>nt<|wp_ret<|aG<|aG<|oB 2 (bJ O P Q R S T U) E H U48 rfl cV<|have H:=H.drs [1,1];?_
     cases hm
     exact X6 ⟨rfl,H.rdx [0,1,2,3,4,5] rfl (fun r hr=>(t6 (t r hr)))⟩
    ·refine wp_skip<|aA<|dz [0,0,0,0,0,0,0,0,0,0,0,2] [0,1] H fun w W0 hI H=>fn 3 E rfl fun a E=>fb2 E m0 U84 rfl fun a E=>fn 1 E rfl fun a E=>fb2 E mm1 U2 rfl fun a E=>fn 1 E rfl fun a E=>fb2 E mm1 U4 rfl fun a E=>fn 1 E rfl fun a E=>fb2 E mm1 U2 rfl fun a E=>fv E rfl (fun w hW=>(bP E rfl (E.evs rfl) (v:=.agg #[.int .i64 0,.int .i64 0,.bool x20.Yes,.int .i64 x20.Epoch,nS,nS,nS,nS,nS,nS]) (by kernel_rfl))) fun a E=>bL rfl<|bd hm fun d2 C hm=>Dk (i:=3) (K:=(kyI .i64)) (v:=(⟨0,0,x20.Yes,x20.Epoch,[],(⟨[],[]⟩:aF),[],[],[]⟩:aW)) (cs:=[.int .i64 0,.int .i64 0,.bool x20.Yes,.int .i64 x20.Epoch,nS,nS,nS,nS,nS,nS]) E H (wn rfl) rfl rfl rfl rfl rfl rfl (iW U2) U84 C (fun ok hr=>(yU (Sl.nil _ _ _) (Sl.nil _ _ _) (Sl.nil _ _ _) (Sl.nil _ _ _) (Sl.nil _ _ _) (Sl.nil _ _ _))) fun w H=>nt<|aY<|?_
     clear hI
     exact aA<|⟨_,_,E.to rfl,H,t,hm⟩
   ·exact wp_skip<|aA<|⟨_,_,E.to rfl,H,t,hm⟩
 ·clear E H hm
  rintro a w ⟨y,c1,E,H,D,hm⟩
  unfold qG at hm
  refine wp_seq<|dz [0,0,0,0,0,0,1,2] [0,1] H fun w W0 hI H=>fn 3 E rfl fun a E=>fb2 E m0 U84 rfl fun a E=>fn 1 E rfl fun a E=>fb2 E mm1 U2 rfl fun a E=>bI rfl<|bd hm fun V F hm=>Tr (i:=3) (K:=(kyI .i64)) E H (wn rfl) rfl rfl rfl rfl rfl rfl (iW U2) U84 Ht Np F fun d3 a H E=>?_
  obtain ⟨X,Y,Z,b0,b1,b2,rfl,h⟩:=zI H;clear H;have H:=h
  refine nt<|⟨sx H [0,1] rfl,bL rfl<|ss 2 E H rfl cV (bR H mm5 mm4 mm3 mm2 mm1 m0) fun w H=>nt<|aY<|?_⟩
  clear hI
  refine aA<|wp_ret<|oB 2 (bJ V X Y Z b0 b1 b2) E H U48 rfl cV<|have H:=H.drs [1,1];?_
  cases hm
  exact X6 ⟨rfl,H.rdx [5,4,3,2,1,0] rfl (fun r hr=>(t7 (D r hr)))⟩

def q8(x1:aO)(x3:Int):Option Bool:=
  some (x1.Txn == x3)
theorem V8{x1:aO}{b:Nat}{x3:Int}(H:Sep w (Blk b 2 [.int .i64 x3]::Fo) rs){r:Bool}(hm:q8 x1 x3=some r) :
    Cf 172 [.agg (sT x1).toArray,pt b 0] w fun v w'=>.bool r=v∧Sep w' (Blk b 2 [.int .i64 x3]::Fo) (rs):=by
 unfold q8 at hm
 refine ent Tryz.func172 rfl Tryz.ntmps172 rfl rfl fun a E=>sq<|bx E H rfl fun c w a H E=>pr 1 E rfl fun a E=>xp 1 E rfl fun a E=>lb2 E H 0 U2 rfl fun a E=>lb2 E H 1 U2 rfl fun a E=>pr 2 E rfl fun a E=>nt<|wp_ret<|o1 E rfl<|have H:=H.drop 0;?_
 cases hm
 exact ⟨rfl,H.reads Y0⟩

def fJ(c:List aO)(d:Int):Nat→Int→Option Int
  | 0,_=>none
  | f+1,b=>
    if (decide (b < (c.length:Int)))=true then ((idx c b).bind fun g=>(q8 g d).bind fun e=>if e=true then (some (b)) else (fJ c d f (IntKind.i64.wrap (b+1)))) else (some ((-1)))
def kD(b:List aO)(c:Int):Option Int:=
  fJ b c (((b.length:Int) - 0:Int).toNat+1) 0
theorem yG{e:Value}{b:List aO}{f:Nat}{g:Int}(H:Sep w (Row 78 aV e b::Blk f 2 [.int .i64 g]::Fo) rs){r:Int}(hm:kD b g=some r) :
    Cf 154 [e,.func (.func 172) #[] #[pt f 0]] w fun v w'=>.int .i64 r=v∧Sep w' (Blk f 2 [.int .i64 g]::Row 78 aV e b::Fo) (rs):=by
 unfold kD at hm
 refine ent Tryz.func154 rfl Tryz.ntmps154 rfl rfl fun a E=>sq<|pn 1 E rfl fun a E=>wp_seq<|sp 1 E rfl fun a E=>sv2 E rfl (iJ (i:=0) E H rfl rfl rfl U58) fun a E=>pr 1 E rfl fun a E=>nt<|wp_block<|bD (fun c a w=>∃ m,Jn 19 a w [(0,e),(1,.func (.func 172) #[] #[pt f 0]),(7,.int .i64 (b.length:Int)),(8,.int .i64 m)] (Row 78 aV e b::Blk f 2 [.int .i64 g]::Fo) rs (fJ b g c m=some r)) (((b.length:Int) - 0:Int).toNat+1) ?_ ?_
 ·exact ⟨_,_,E.to rfl,H,Y0,hm⟩
 ·clear E H hm
  rintro c a w ⟨m,p,E,H,j,hm⟩
  cases c with
  | zero=>exact (aZ hm rfl).elim
  | succ c=>
   unfold fJ at hm
   refine sq<|pn 1 E rfl fun a E=>wp_seq<|wif E hm rfl (fun hm=>?_) fun hm=>?_
   ·refine wp_skip<|aA<|wp_seq<|wp_block<|sp 2 E rfl fun a E=>xp 3 E rfl fun a E=>bd hm fun n k hm=>?_
    obtain ⟨q,s,l⟩:=H.rowformNE (i:=0) rfl k
    refine sv2 E rfl (cX (d:=aV) E l rfl rfl rfl rfl U58 pG k) fun a E=>sv2 E rfl (lP (i:=0) E H fB l rfl rfl rfl k (us:=[.string n.Dir,.int .i64 n.Txn,.int .i64 n.Age]) rfl U78 rfl pG) fun a E=>have H:=H.frs [0,1] rfl;bd hm fun t o hm=>bM E (wn rfl) rfl rfl (bO E rfl rfl rfl ((cf_ 172) _)) (V8 H o)<|?_
    rintro _ w ⟨rfl,H⟩ a E
    refine nt<|wif E hm rfl (fun hm=>?_) fun hm=>?_
    ·refine sq<|pn 2 E rfl fun a E=>wp_ret<|bF<|aG<|aG<|bF<|aG<|o1 E rfl<|?_
     cases hm
     exact ⟨rfl,H.reads j⟩
    ·exact wp_skip<|bH<|aA<|wp_region_lit<|pn 2 E rfl fun a E=>have H:=H.frs [0,1] rfl;⟨c,Nat.lt_succ_self c,_,_,E.to rfl,H,j,hm⟩
   ·refine wp_exit<|aL<|aL<|cH<|aA<|sq<|pn 1 E rfl fun a E=>wp_ret<|o1 E rfl<|have H:=H.frs [0,1] rfl;?_
    cases hm
    exact ⟨rfl,H.reads j⟩

def fO(rec_1:mH→Int→Int→Option mH)(d:Int)(b:mH)(c:Int):Option mH:=
  rec_1 b c (IntKind.i64.wrap (d+1))
def dO(f:Int):Nat→mH→Int→Int→Option mH
  | 0,_,_,_=>none
  | g+1,c,b,d=>
    if (decide (d < (c.length:Int)))=true then ((idx c d).bind fun e=>(q8 e f).bind fun i=>if (!i)=true then ((idx c b).bind fun j=>fO (dO f g) d (c.set b.toNat e) (IntKind.i64.wrap (b+1))) else (fO (dO f g) d c b)) else ((ck (0 ≤ b∧b ≤ c.length)).bind fun k=>(ck (0 ≤ b∧b ≤ (c.take b.toNat ++ List.replicate (c.length - b.toNat) (⟨⟨#[]⟩,0,0⟩:aO)).length)).bind fun l=>some ((c.take b.toNat ++ List.replicate (c.length - b.toNat) (⟨⟨#[]⟩,0,0⟩:aO)).take b.toNat))
def lA(b:List aO)(d:Int):Option mH:=
  (kD b d).bind fun c=>if (c == (-1))=true then (some (b)) else (dO d (((b.length:Int) - (IntKind.i64.wrap (c+1)):Int).toNat+1) b c (IntKind.i64.wrap (c+1)))
theorem zC{l:Value}{t:List aO}{c:Nat}{e:Int}(H:Sep w (Row 78 aV l t::Blk c 2 [.int .i64 e]::Fo) rs){r:mH}(hm:lA t e=some r) :
    Cf 171 [l,.func (.func 172) #[] #[pt c 0]] w fun v w'=>∃ B,B=v∧Sep w' (Row 78 aV B r::Blk c 2 [.int .i64 e]::Fo) (rs):=by
 unfold lA at hm
 refine ent Tryz.func171 rfl Tryz.ntmps171 rfl rfl fun a E=>sp 1 E rfl fun a E=>xp 2 E rfl fun a E=>bd hm fun D C hm=>xk2 E rfl (cf_ 154) (yG H C) fun w H a E=>pn 1 E rfl fun a E=>wp_seq<|sq<|pn 2 E rfl fun a E=>wif E hm rfl (fun hm=>?_) fun hm=>?_
 ·refine sq<|pn 2 E rfl fun a E=>wp_ret<|aG<|o1 E rfl<|have H:=H.frs [0,1] rfl;?_
  cases hm
  exact ⟨_,rfl,H.reads Y0⟩
 ·refine wp_skip<|aA<|wp_seq<|sq<|pn 3 E rfl fun a E=>wp_block<|bD (fun f a w=>∃ u x m,Jn 42 a w [(0,l),(1,.func (.func 172) #[] #[pt c 0]),(5,.int .i64 x),(6,.int .i64 m)] (Row 78 aV l u::Blk c 2 [.int .i64 e]::Fo) rs (dO e f u x m=some r)) (((t.length:Int) - (IntKind.i64.wrap (D+1)):Int).toNat+1) ?_ ?_
  ·exact have H:=H.frs [0,1] rfl;X4 ⟨E.to rfl,H,Y0,hm⟩
  ·clear E H hm
   rintro f a w ⟨u,x,m,F,E,H,g,hm⟩
   cases f with
   | zero=>exact (aZ hm rfl).elim
   | succ f=>
    unfold dO at hm
    refine wp_seq<|sp 2 E rfl fun a E=>sv2 E rfl (iJ (i:=0) E H rfl rfl rfl U58) fun a E=>pn 1 E rfl fun a E=>wif E hm rfl (fun hm=>?_) fun hm=>?_
    ·refine wp_skip<|aA<|aK (fun a w=>∃ n o,Jn 42 a w [(0,l),(1,.func (.func 172) #[] #[pt c 0]),(5,.int .i64 o),(6,.int .i64 m)] (Row 78 aV l n::Blk c 2 [.int .i64 e]::Fo) rs (fO (dO e f) m n o=some r)) ?_ ?_
     ·refine wp_block<|sp 2 E rfl fun a E=>bd hm fun b j hm=>?_
      obtain ⟨I,J,p⟩:=H.rowformNE (i:=0) rfl j
      refine sv2 E rfl (cX (d:=aV) E p rfl rfl rfl rfl U58 pG j) fun a E=>sv2 E rfl (lP (i:=0) E H fB p rfl rfl rfl j (us:=[.string b.Dir,.int .i64 b.Txn,.int .i64 b.Age]) rfl U78 rfl pG) fun a E=>al2 E H rfl Wr fun K w a H E=>ss 0 E H rfl pG rfl fun w H=>xp 1 E rfl fun a E=>ln 0 (sT b) E H U78 rfl pG fun a E=>have H:=H.frs [1,1,2] rfl;bd hm fun L y hm=>bM E (wn rfl) rfl rfl (bO E rfl rfl rfl ((cf_ 172) _)) (V8 H y)<|?_
      rintro _ w ⟨rfl,H⟩ a E
      refine pn 1 E rfl fun a E=>wif E hm rfl (fun hm=>?_) fun hm=>?_
      ·refine sp 2 E rfl fun a E=>ln 1 (sT b) E H U78 rfl pG fun a E=>bd hm fun M k hm=>?_
       obtain ⟨N,O,q⟩:=H.rowformNE (i:=2) rfl k
       exact sv2 E rfl (cX (d:=aV) E q rfl rfl rfl rfl U58 pG k) fun a E=>K6 (d:=aV) (i:=2) (us:=[.string b.Dir,.int .i64 b.Txn,.int .i64 b.Age]) (z':=b) E H fB (wn rfl) rfl q rfl rfl rfl rfl rfl rfl rfl k pG fun w H=>nt<|wp_region_lit<|pr 3 E rfl fun a E=>wpList_nil<|bH<|aA<|have H:=H.drop 1;have H:=H.frs [0,1] rfl;X3 ⟨E.to rfl,H,g,hm⟩
      ·exact wp_skip<|bH<|aA<|have H:=H.drop 1;have H:=H.frs [0,1] rfl;X3 ⟨E.to rfl,H,g,hm⟩
     ·clear E H hm
      rintro a w ⟨n,o,G,E,H,z,hm⟩
      unfold fO at hm
      exact wp_region_lit<|pn 3 E rfl fun a E=>⟨f,Nat.lt_succ_self f,X4 ⟨E.to rfl,H,z,hm⟩⟩
    ·refine wp_exit<|aL<|aL<|cH<|aA<|sp 2 E rfl fun a E=>bk hm fun s hm=>sv2 E rfl (Fh (d:=aV) (i:=0) E H rfl rfl rfl rfl U58 pG s) fun a E=>Q2 (i:=0) (z0:=(⟨⟨#[]⟩,0,0⟩:aO)) E H fB (wn rfl) rfl rfl rfl U58 GT rfl rfl rfl s fun w H=>xp 2 E rfl fun a E=>bk hm fun A hm=>Br (i:=0) E H fB (wn rfl) rfl rfl rfl rfl rfl rfl U58 pG A fun P a H E=>pn 1 E rfl fun a E=>wp_ret<|o1 E rfl<|?_
     cases hm
     exact ⟨_,rfl,H.reads g⟩

def M7(b:List aO)(x3:Int):Option mH:=
  (ck (b.length ≤ LIM)).bind fun d=>(lA b x3).bind fun c=>some (c)
theorem Nw{c:Value}{d:List aO}{x3:Int}(H:Sep w (Fo) rs)(e:rSl aV c d ∈ rs){r:mH}(hm:M7 d x3=some r) :
    Cf 103 [c,.int .i64 x3] w fun v w'=>∃ f,f=v∧Sep w' (Row 78 aV f r::Fo) (rs):=by
 unfold M7 at hm
 refine ent Tryz.func103 rfl Tryz.ntmps103 rfl rfl fun a E=>sq<|bx E H rfl fun j w a H E=>pr 1 E rfl fun a E=>xp 1 E rfl fun a E=>bk hm fun g hm=>xc2 E rfl (cf_ 60) (kZ H e g) fun k w H a E=>sv2 E rfl (nM E rfl rfl rfl) fun a E=>bd hm fun l b hm=>xc2 E rfl (cf_ 171) (zC H b)<|?_
 rintro _ w ⟨i,rfl,H⟩ a E
 refine pn 1 E rfl fun a E=>wp_ret<|o1 E rfl<|have H:=H.drop 1;?_
 cases hm
 exact ⟨_,rfl,H.reads Y0⟩

def fG(b:Int):Option Int:=
  some (b)
theorem oL{e:Nat}{b:Int}{c d f g i j k:Value}(H:Sep w (Blk e 185 [c,d,f,g,i,j,k]::Fo) rs){r:Int}(hm:fG b=some r) :
    Cf 203 [pt e 0,.int .i64 b] w fun v w'=>.tuple #[]=v∧Sep w' (Blk e 185 [c,d,.int .i64 r,.string (ByteArray.mk #[]),.string (ByteArray.mk #[]),.int .i64 0,nS]::Fo) (rs):=by
 unfold fG at hm
 refine ent Tryz.func203 rfl Tryz.ntmps203 rfl rfl fun a E=>wp_region_lit<|pr 2 E rfl fun a E=>sv2 E rfl (bP E rfl (E.evs rfl) (v:=.agg #[.int .i64 b,.string (ByteArray.mk #[]),.string (ByteArray.mk #[]),.int .i64 0,nS]) (by kernel_rfl)) fun a E=>pr 2 E rfl fun a E=>ss 0 E H rfl eH rfl fun w H=>wpList_nil<|vC E rfl<|?_
 cases hm
 exact ⟨rfl,H.reads Y0⟩

def oM(b:ByteArray)(c:ByteArray):Option Int:=
  some (Extern.BytealgCompare.cmp b c)
theorem A2{b c:ByteArray}(H:Sep w (Fo) rs){r:Int}(hm:oM b c=some r) :
    Cf 190 [.string b,.string c] w fun v w'=>.int .i64 r=v∧Sep w' (Fo) (rs):=by
 unfold oM at hm
 refine ent Tryz.func190 rfl Tryz.ntmps190 rfl rfl fun a E=>sp 1 E rfl fun a E=>xp 2 E rfl fun a E=>sv2 E rfl (Iz E rfl rfl (DT _ _ _)) fun a E=>pn 1 E rfl fun a E=>wp_ret<|o1 E rfl<|?_
 cases hm
 exact ⟨rfl,H.reads Y0⟩

def qA(b:ByteArray)(c:ByteArray):Option Int:=
  (oM b c).bind fun d=>some (d)
theorem vO{b c:ByteArray}(H:Sep w (Fo) rs){r:Int}(hm:qA b c=some r) :
    Cf 113 [.string b,.string c] w fun v w'=>.int .i64 r=v∧Sep w' (Fo) (rs):=by
 unfold qA at hm
 refine ent Tryz.func113 rfl Tryz.ntmps113 rfl rfl fun a E=>sp 1 E rfl fun a E=>xp 2 E rfl fun a E=>bd hm fun e d hm=>xk2 E rfl (cf_ 190) (A2 H d) fun w H a E=>pn 1 E rfl fun a E=>wp_ret<|o1 E rfl<|?_
 cases hm
 exact ⟨rfl,H.reads Y0⟩

def qP(x1:aD)(b:ByteArray):Option Int:=
  (qA x1.Path b).bind fun c=>some (c)
theorem D9{x1:aD}{b:ByteArray}(H:Sep w (Fo) rs){r:Int}(hm:qP x1 b=some r) :
    Cf 280 [.agg (dS x1).toArray,.string b] w fun v w'=>.int .i64 r=v∧Sep w' (Fo) (rs):=by
 unfold qP at hm
 refine ent Tryz.func280 rfl Tryz.ntmps280 rfl rfl fun a E=>sq<|bx E H rfl fun d w a H E=>pr 1 E rfl fun a E=>xp 1 E rfl fun a E=>lb2 E H 0 U9 rfl fun a E=>pr 1 E rfl fun a E=>bd hm fun e c hm=>xk2 E rfl (cf_ 113) (vO H c) fun w H a E=>pn 1 E rfl fun a E=>wp_ret<|o1 E rfl<|have H:=H.drop 0;?_
 cases hm
 exact ⟨rfl,H.reads Y0⟩

def bZ(c:List aD)(e:ByteArray):Nat→Int→Int→Option a7
  | 0,_,_=>none
  | f+1,b,d=>
    if (decide (b < d))=true then ((idx c (IntKind.i64.wrap (wT .u64 (IntKind.u64.wrap (IntKind.i64.wrap (b+d))) 1))).bind fun k=>(qP k e).bind fun g=>if (decide (g < 0))=true then (bZ c e f (IntKind.i64.wrap ((IntKind.i64.wrap (wT .u64 (IntKind.u64.wrap (IntKind.i64.wrap (b+d))) 1))+1)) d) else (bZ c e f b (IntKind.i64.wrap (wT .u64 (IntKind.u64.wrap (IntKind.i64.wrap (b+d))) 1)))) else (if (decide (b < (c.length:Int)))=true then ((idx c b).bind fun i=>(qP i e).bind fun j=>some (b,j == 0)) else (some (b,false)))
def eC(b:List aD)(c:ByteArray):Option a7:=
  bZ b c (((b.length:Int) - 0:Int).toNat+1) 0 (b.length:Int)
theorem sV{k:Value}{f:List aD}{p:ByteArray}(H:Sep w (Row 107 aB k f::Fo) rs){r:Int×Bool}(hm:eC f p=some r) :
    Cf 279 [k,.string p,.func (.func 280) #[] #[]] w fun v w'=>.tuple #[.int .i64 r.1,.bool r.2]=v∧Sep w' (Row 107 aB k f::Fo) (rs):=by
 unfold eC at hm
 refine ent Tryz.func279 rfl Tryz.ntmps279 rfl rfl fun a E=>sp 2 E rfl fun a E=>xp 1 E rfl fun a E=>sv2 E rfl (iJ (i:=0) E H rfl rfl rfl U22) fun a E=>pr 1 E rfl fun a E=>xp 3 E rfl fun a E=>nt<|wp_seq<|wp_block<|bD (fun c a w=>∃ q s,Jn 49 a w [(0,k),(1,.string p),(2,.func (.func 280) #[] #[]),(8,.int .i64 (f.length:Int)),(9,.int .i64 q),(10,.int .i64 s)] (Row 107 aB k f::Fo) rs (bZ f p c q s=some r)) (((f.length:Int) - 0:Int).toNat+1) ?_ ?_
 ·exact X3 ⟨E.to rfl,H,Y0,hm⟩
 ·clear E H hm
  rintro c a w ⟨q,s,x,E,H,j,hm⟩
  cases c with
  | zero=>exact (aZ hm rfl).elim
  | succ c=>
   unfold bZ at hm
   refine wp_seq<|sq<|pn 3 E rfl fun a E=>wif E hm rfl (fun hm=>?_) fun hm=>?_
   ·refine wp_skip<|aA<|wp_block<|sp 4 E rfl fun a E=>sv2 E rfl (Gv E rfl rfl rfl (by decide)) fun a E=>pr 2 E rfl fun a E=>xp 3 E rfl fun a E=>bd hm fun l m hm=>?_
    obtain ⟨y,z,n⟩:=H.rowformNE (i:=0) rfl m
    refine sv2 E rfl (cX (d:=aB) E n rfl rfl rfl rfl U22 cJ m) fun a E=>sv2 E rfl (lP (i:=0) E H bX n rfl rfl rfl m (us:=[.string l.Path,.string l.Data,.int .i64 l.Version,.int .i64 l.Turn,.int .i64 l.Owner]) rfl pF rfl cJ) fun a E=>pr 1 E rfl fun a E=>bd hm fun A t hm=>bM E (wn rfl) rfl rfl (bO E rfl rfl rfl ((cf_ 280) _)) (D9 H t)<|?_
    rintro _ w ⟨rfl,H⟩ a E
    refine pn 1 E rfl fun a E=>wif E hm rfl (fun hm=>?_) fun hm=>?_
    ·exact wp_region_lit<|pr 3 E rfl fun a E=>wpList_nil<|bH<|aA<|⟨c,Nat.lt_succ_self c,X3 ⟨E.to rfl,H,j,hm⟩⟩
    ·exact wp_region_lit<|pr 2 E rfl fun a E=>wpList_nil<|bH<|aA<|⟨c,Nat.lt_succ_self c,X3 ⟨E.to rfl,H,j,hm⟩⟩
   ·refine wp_exit<|aL<|aL<|cH<|aA<|sp 5 E rfl fun a E=>cs hm (fun b hm=>?_) fun b hm=>?_
    ·refine pk 3 E (kc 39 rfl b) rfl fun a E=>bd hm fun e g hm=>?_
     obtain ⟨B,C,o⟩:=H.rowformNE (i:=0) rfl g
     refine gv 39 E b rfl (cX (d:=aB) E o rfl rfl rfl rfl U22 cJ g) fun a E=>gv 39 E b rfl (lP (i:=0) E H bX o rfl rfl rfl g (us:=[.string e.Path,.string e.Data,.int .i64 e.Version,.int .i64 e.Turn,.int .i64 e.Owner]) rfl pF rfl cJ) fun a E=>pk 1 E (kc 39 rfl b) rfl fun a E=>bd hm fun D u hm=>bM E (ws' (d:=39) E rfl rfl rfl rfl b) rfl rfl (bO E rfl rfl rfl ((cf_ 280) _)) (D9 H u)<|?_
     rintro _ w ⟨rfl,H⟩ a E
     refine pk 4 E (kc 39 rfl b) rfl fun a E=>nt<|wp_ret<|fW E rfl rfl rfl<|?_
     cases hm
     exact ⟨rfl,H.reads j⟩
    ·refine pk 11 E (kc 39 rfl b) rfl fun a E=>nt<|wp_ret<|fW E rfl rfl rfl<|?_
     cases hm
     exact ⟨rfl,H.reads j⟩

def jZ(d:List aD)(c:ByteArray):Option a7:=
  (eC d c).bind fun b=>some (b.1,b.2)
theorem s8{k:Nat}{b c d e f g i:Value}{l:List aD}{j:ByteArray}(H:Sep w (Blk k 185 [b,c,d,e,f,g,i]::Row 107 aB b l::Fo) rs){r:Int×Bool}(hm:jZ l j=some r) :
    Cf 209 [pt k 0,.string j] w fun v w'=>.tuple #[.int .i64 r.1,.bool r.2]=v∧Sep w' (Blk k 185 [b,c,d,e,f,g,i]::Row 107 aB b l::Fo) (rs):=by
 unfold jZ at hm
 refine ent Tryz.func209 rfl Tryz.ntmps209 rfl rfl fun a E=>sp 2 E rfl fun a E=>xp 4 E rfl fun a E=>lb2 E H 0 U22 rfl fun a E=>pr 1 E rfl fun a E=>have H:=H.frs [0,1] rfl;bd hm fun n m hm=>xk2 E rfl (cf_ 279) (sV H m) fun w H a E=>pn 4 E rfl fun a E=>wp_ret<|fW E rfl rfl rfl<|have H:=H.frs [0,1] rfl;?_
 cases hm
 exact ⟨rfl,H.reads Y0⟩

def qQ(x20:Int):Option Sf:=
  some ((-1),x20,(ByteArray.mk #[]),(ByteArray.mk #[]),0,[])
def nB(f:List aD)(b:Int×Bool)(g:Int)(i:ByteArray)(j:ByteArray)(k:Int)(c:List ByteArray)(d:Bool):Option Sf:=
  if d=true then ((fG 63).bind fun e=>qQ e) else ((idx f b.1).bind fun l=>some (b.1,g,i,j,k,c))
def nC(d:List aD)(b:Int×Bool)(f:Int)(g:ByteArray)(i:ByteArray)(j:Int)(c:List ByteArray)(e:aQ)(k:Bool):Option Sf:=
  if (!b.2)=true then ((fG 62).bind fun l=>qQ l) else (if k=true then (if (decide (e.Version ≥ 0))=true then ((idx d b.1).bind fun m=>nB d b f g i j c (e.Version != m.Version)) else (nB d b f g i j c false)) else (nB d b f g i j c false))
def gG(e:List aD)(f:Int)(g:ByteArray)(i:ByteArray)(j:Int)(c:List ByteArray)(b:aQ):Option Sf:=
  (jZ e b.Path).bind fun d=>if (b.Kind == 3)=true then (nC e d f g i j c b true) else (if (b.Kind == 5)=true then (nC e d f g i j c b true) else (nC e d f g i j c b (b.Kind == 6)))
theorem qZ{n:Nat}{c j o:Value}{p:List aD}{x y:Int}{z A:ByteArray}{l:List ByteArray}{u:aQ}(H:Sep w (Blk n 185 [c,o,.int .i64 x,.string z,.string A,.int .i64 y,j]::Row 107 aB c p::Row 9 kS j l::Fo) rs){r:Int×Int×ByteArray×ByteArray×Int×cR}(hm:gG p x z A y l u=some r) :
    Cf 202 [pt n 0,.agg (bE u).toArray] w fun v w'=>∃ N,orp c r.1 5=v∧Sep w' (Blk n 185 [c,o,.int .i64 r.2.1,.string r.2.2.1,.string r.2.2.2.1,.int .i64 r.2.2.2.2.1,N]::Row 107 aB c p::Row 9 kS N r.2.2.2.2.2::Fo) (rs):=by
 unfold gG at hm
 refine ent Tryz.func202 rfl Tryz.ntmps202 rfl rfl fun a E=>sq<|bx E H rfl fun I w a H E=>pr 1 E rfl fun a E=>xp 2 E rfl fun a E=>lb2 E H 0 U9 rfl fun a E=>have H:=H.frs [3,1,3,3] rfl;bd hm fun q J hm=>xk2 E rfl (cf_ 209) (s8 H J) fun w H a E=>pn 5 E rfl fun a E=>aK (fun a w=>∃ B,Jn 63 a w [(0,pt n 0),(3,pt I 0),(5,.int .i64 q.1),(6,.bool q.2),(7,.bool B)] (Blk n 185 [c,o,.int .i64 x,.string z,.string A,.int .i64 y,j]::Blk I 97 (bE u)::Row 107 aB c p::Row 9 kS j l::Fo) rs (nC p q x z A y l u B=some r)) ?_ ?_
 ·refine wp_region_lit<|pr 1 E rfl fun a E=>lb2 E H 2 U3 rfl fun a E=>pr 2 E rfl fun a E=>cs hm (fun e hm=>?_) fun e hm=>?_
  ·exact pk 10 E (kc 18 rfl e) rfl fun a E=>nt<|have H:=H.frs [3,2,3,3] rfl;⟨_,_,E.to rfl,H,Y0,hm⟩
  ·refine pk 1 E (kc 18 rfl e) rfl fun a E=>gl 18 E H 2 e U3 rfl fun a E=>pk 3 E (kc 18 rfl e) rfl fun a E=>cs hm (fun f hm=>?_) fun f hm=>?_
   ·exact pk 5 E (kc 23 rfl f) rfl fun a E=>nt<|have H:=H.frs [3,2,3,3] rfl;⟨_,_,E.to rfl,H,Y0,hm⟩
   ·exact pk 1 E (kc 23 rfl f) rfl fun a E=>gl 23 E H 2 f U3 rfl fun a E=>pk 3 E (kc 23 rfl f) rfl fun a E=>nt<|have H:=H.frs [3,2,3,3] rfl;⟨_,_,E.to rfl,H,Y0,hm⟩
 ·clear E H hm
  rintro a w ⟨B,O,E,H,m,hm⟩
  unfold nC at hm
  refine aK (fun a w=>∃ x20,Jn 63 a w [] (Blk n 185 [c,o,.int .i64 x20,.string (ByteArray.mk #[]),.string (ByteArray.mk #[]),.int .i64 0,nS]::Row 107 aB c p::Fo) rs (qQ x20=some r)) ?_ ?_
  ·refine wp_block<|sq<|pn 3 E rfl fun a E=>wif E hm rfl (fun hm=>?_) fun hm=>?_
   ·exact wp_region_lit<|pr 1 E rfl fun a E=>bd hm fun R K hm=>xk2 E rfl (cf_ 203) (oL H K) fun w H a E=>wpList_nil<|bH<|aA<|have H:=H.drs [1,2];⟨_,_,E.nil,H,m,hm⟩
   ·refine aK (fun a w=>∃ C,Jn 63 a w [(0,pt n 0),(5,.int .i64 q.1),(40,.bool C)] (Blk n 185 [c,o,.int .i64 x,.string z,.string A,.int .i64 y,j]::Row 107 aB c p::Row 9 kS j l::Fo) rs (nB p q x z A y l C=some r)) ?_ ?_
    ·refine dz [0,0,0,0,0,0,0,0,0,0,0,0,0,0,0,0,0,0,0,0,1] [0,1,2] H fun w W0 hI H=>fn 2 E rfl fun a E=>cs hm (fun g hm=>?_) fun g hm=>?_
     ·refine fk 1 E (kc 42 rfl g) rfl fun a E=>fb E rfl (ws' (d:=42) E rfl rfl rfl rfl g) rfl rfl rfl rfl mm1 rfl U2 rfl fun a E=>fk 3 E (kc 42 rfl g) rfl fun a E=>cs hm (fun b hm=>?_) fun b hm=>?_
      ·refine fk 1 E (kc 47 rfl b) rfl fun a E=>fb E rfl (ws' (d:=47) E rfl rfl rfl rfl b) rfl rfl rfl rfl mm1 rfl U2 rfl fun a E=>fk 4 E (kc 47 rfl b) rfl fun a E=>fb E rfl (ws' (d:=47) E rfl rfl rfl rfl b) rfl rfl rfl rfl m0 rfl U22 rfl fun a E=>fk 1 E (kc 47 rfl b) rfl fun a E=>bd hm fun S s hm=>?_
       obtain ⟨T,U,D⟩:=H.rowformNE (i:=2) rfl s
       refine cZ E rfl (ws' (d:=47) E rfl rfl rfl rfl b) rfl rfl (fun w hW=>cX (d:=aB) E D rfl rfl rfl rfl U22 cJ s) fun a E=>fk 1 E (kc 47 rfl b) rfl fun a E=>cZ E rfl (ws' (d:=47) E rfl rfl rfl rfl b) rfl rfl (fun w hW=>L9 (d:=aB) (k:=2) E bX D s mm2 rfl rfl rfl U2 rfl hW) fun a E=>fk 2 E (kc 47 rfl b) rfl fun a E=>bI rfl<|pn 1 E rfl fun a E=>⟨sx H [0,1,2] rfl,aY<|?_⟩
       clear hI
       exact aA<|have H:=H.drop 1;⟨_,_,E.to rfl,H,m,hm⟩
      ·refine fk 13 E (kc 47 rfl b) rfl fun a E=>bI rfl<|pn 1 E rfl fun a E=>⟨sx H [0,1,2] rfl,aY<|?_⟩
       clear hI
       exact aA<|have H:=H.drop 1;⟨_,_,E.to rfl,H,m,hm⟩
     ·refine fk 18 E (kc 42 rfl g) rfl fun a E=>bI rfl<|pn 1 E rfl fun a E=>⟨sx H [0,1,2] rfl,aY<|?_⟩
      clear hI
      exact aA<|have H:=H.drop 1;⟨_,_,E.to rfl,H,m,hm⟩
    ·clear E H hm
     rintro a w ⟨C,P,E,H,F,hm⟩
     unfold nB at hm
     refine wif E hm rfl (fun hm=>?_) fun hm=>?_
     ·exact wp_region_lit<|pr 1 E rfl fun a E=>bd hm fun V L hm=>xk2 E rfl (cf_ 203) (oL H L) fun w H a E=>wpList_nil<|bH<|aA<|have H:=H.drop 2;⟨_,_,E.nil,H,F,hm⟩
     ·refine sp 4 E rfl fun a E=>lb2 E H 0 U22 rfl fun a E=>pr 1 E rfl fun a E=>bd hm fun W t hm=>?_
      obtain ⟨X,Y,G⟩:=H.rowformNE (i:=1) rfl t
      refine sv2 E rfl (cX (d:=aB) E G rfl rfl rfl rfl U22 cJ t) fun a E=>pn 1 E rfl fun a E=>wp_ret<|bF<|aG<|o1 E rfl<|?_
      cases hm
      exact ⟨_,Bs _ G t,H.reads F⟩
  ·clear E H hm
   rintro a w ⟨x20,Q,E,H,M,hm⟩
   unfold qQ at hm
   refine sq<|pn 1 E rfl fun a E=>wp_ret<|o1 E rfl<|have H:=H.nilRow 9 kS;have H:=H.frs [0,2,2] rfl;?_
   cases hm
   exact ⟨_,rfl,H.reads M⟩

def sL(e:List aD)(i:Int)(j:ByteArray)(k:ByteArray)(l:Int)(f:List ByteArray)(c:aQ):Option ES:=
  (gG e i j k l f c).bind fun b=>if (decide (b.1 < 0))=true then (some (e,b.2.1,b.2.2.1,b.2.2.2.1,b.2.2.2.2.1,b.2.2.2.2.2)) else ((idx e b.1).bind fun d=>if (d.Version == 281474976710656)=true then ((fG 2).bind fun g=>some (e,g,(ByteArray.mk #[]),(ByteArray.mk #[]),0,[])) else (some ((e.set b.1.toNat ({ d with Data:=c.Data }:aD)).set b.1.toNat ({ ({ d with Data:=c.Data }:aD) with Version:=IntKind.i64.wrap ((({ d with Data:=c.Data }:aD).Version)+1) }:aD),b.2.1,b.2.2.1,b.2.2.2.1,({ ({ d with Data:=c.Data }:aD) with Version:=IntKind.i64.wrap ((({ d with Data:=c.Data }:aD).Version)+1) }:aD).Version,b.2.2.2.2.2)))
theorem Ea{n:Nat}{g j l:Value}{q:List aD}{s t:Int}{u x:ByteArray}{m:List ByteArray}{e:aQ}(H:Sep w (Blk n 185 [g,l,.int .i64 s,.string u,.string x,.int .i64 t,j]::Row 107 aB g q::Row 9 kS j m::Fo) rs){r:cD×Int×ByteArray×ByteArray×Int×cR}(hm:sL q s u x t m e=some r) :
    Cf 129 [pt n 0,.agg (bE e).toArray] w fun v w'=>∃ y,.tuple #[]=v∧Sep w' (Blk n 185 [g,l,.int .i64 r.2.1,.string r.2.2.1,.string r.2.2.2.1,.int .i64 r.2.2.2.2.1,y]::Row 107 aB g r.1::Row 9 kS y r.2.2.2.2.2::Fo) (rs):=by
 unfold sL at hm
 refine ent Tryz.func129 rfl Tryz.ntmps129 rfl rfl fun a E=>sq<|bx E H rfl fun z w a H E=>xp 1 E rfl fun a E=>ln 0 (bE e) E H U97 rfl hU fun a E=>have H:=H.frs [0,3,3,3] rfl;bd hm fun A o hm=>xc2 E rfl (cf_ 202) (qZ H o)<|?_
 rintro _ w ⟨B,rfl,H⟩ a E
 refine pn 1 E rfl fun a E=>wp_block<|sp 1 E rfl fun a E=>sv2 E rfl (BW E Hw Hx rfl rfl rfl) fun a E=>pn 1 E rfl fun a E=>wif E hm rfl (fun hm=>?_) fun hm=>?_
 ·refine wp_skip<|bH<|vC E rfl<|have H:=H.drop 3;?_
  cases hm
  exact ⟨_,rfl,H.reads Y0⟩
 ·refine sp 1 E rfl fun a E=>bd hm fun f b hm=>?_
  obtain ⟨C,D,c⟩:=H.rowformNE (i:=1) rfl b
  rw [Bs 5 c b] at E
  refine pr 2 E rfl fun a E=>sv2 E rfl (mW (d:=aB) (i:=1) (k:=2) E H bX c rfl rfl rfl b rfl U2 rfl) fun a E=>pn 2 E rfl fun a E=>wif E hm rfl (fun hm=>?_) fun hm=>?_
  ·refine wp_region_lit<|pr 1 E rfl fun a E=>bd hm fun F p hm=>xk2 E rfl (cf_ 203) (oL H p) fun w H a E=>wpList_nil<|bH<|vC E rfl<|have H:=H.nilRow 9 kS;have H:=H.drs [3,3];have H:=H.frs [0,2,2] rfl;?_
   cases hm
   exact ⟨_,rfl,H.reads Y0⟩
  ·refine sp 2 E rfl fun a E=>lb2 E H 3 U9 rfl fun a E=>pr 2 E rfl fun a E=>H8 (d:=aB) (i:=1) (k:=1) (z':=({ f with Data:=e.Data }:aD)) E H bX (wn rfl) rfl c rfl rfl rfl rfl rfl rfl b rfl rfl sz9 fun w H=>xp 3 E rfl fun a E=>sv2 E rfl (mW (d:=aB) (i:=1) (k:=2) E H bX c rfl rfl rfl (wY b) rfl U2 rfl) fun a E=>pr 3 E rfl fun a E=>H8 (d:=aB) (i:=1) (k:=2) (z':=({ ({ f with Data:=e.Data }:aD) with Version:=IntKind.i64.wrap ((({ f with Data:=e.Data }:aD).Version)+1) }:aD)) E H bX (wn rfl) rfl c rfl rfl rfl rfl rfl rfl (wY b) rfl rfl sz2 fun w H=>nt<|wp_region_lit<|pr 4 E rfl fun a E=>sv2 E rfl (mW (d:=aB) (i:=1) (k:=2) E H bX c rfl rfl rfl (wY (wY b)) rfl U2 rfl) fun a E=>pr 3 E rfl fun a E=>ss 0 E H rfl sz2 rfl fun w H=>wpList_nil<|bH<|vC E rfl<|have H:=H.drop 3;?_
   cases hm
   exact ⟨_,rfl,H.reads Y0⟩

def wR(x1:aQ):Option (Int×ByteArray×ByteArray×ByteArray×Int×Int×Bool):=
  some (x1.Kind,x1.Dir,x1.Path,x1.Data,x1.Version,x1.Owner,x1.Turns)
theorem Ch{x1:aQ}(H:Sep w (Fo) rs){r:Int×ByteArray×ByteArray×ByteArray×Int×Int×Bool}(hm:wR x1=some r) :
    Cf 213 [.agg (bE x1).toArray] w fun v w'=>∃ b,.func (.func 283) #[] #[pt b 0]=v∧Sep w' (Blk b 97 [.int .i64 r.1,.string r.2.1,.string r.2.2.1,.string r.2.2.2.1,.int .i64 r.2.2.2.2.1,.int .i64 r.2.2.2.2.2.1,.bool r.2.2.2.2.2.2]::Fo) (rs):=by
 unfold wR at hm
 refine ent Tryz.func213 rfl Tryz.ntmps213 rfl rfl fun a E=>sq<|bx E H rfl fun c w a H E=>pr 1 E rfl fun a E=>nx<|sv2 E rfl (nM E rfl rfl rfl) fun a E=>pn 1 E rfl fun a E=>wp_ret<|o1 E rfl<|?_
 cases hm
 exact ⟨_,rfl,H.reads Y0⟩

def vH(x1:aD)(c:ByteArray):Option Bool:=
  (qD x1.Path).bind fun b=>if b.2=true then (some (sEq b.1 c)) else (some (false))
theorem S2{x1:aD}{j:Nat}{k:ByteArray}{c d e f g i:Value}(H:Sep w (Blk j 97 [c,d,.string k,e,f,g,i]::Fo) rs){r:Bool}(hm:vH x1 k=some r) :
    Cf 283 [.agg (dS x1).toArray,pt j 0] w fun v w'=>.bool r=v∧Sep w' (Blk j 97 [c,d,.string k,e,f,g,i]::Fo) (rs):=by
 unfold vH at hm
 refine ent Tryz.func283 rfl Tryz.ntmps283 rfl rfl fun a E=>sq<|bx E H rfl fun m w a H E=>pr 1 E rfl fun a E=>xp 1 E rfl fun a E=>lb2 E H 0 U9 rfl fun a E=>bd hm fun n l hm=>xk2 E rfl (cf_ 180) (x7 H l) fun w H a E=>pr 5 E rfl fun a E=>xp 2 E rfl fun a E=>cs hm (fun b hm=>?_) fun b hm=>?_
 ·refine pk 2 E (kc 13 rfl b) rfl fun a E=>gl 13 E H 1 b U9 rfl fun a E=>pk 3 E (kc 13 rfl b) rfl fun a E=>nt<|wp_ret<|o1 E rfl<|have H:=H.drop 0;?_
  cases hm
  exact ⟨rfl,H.reads Y0⟩
 ·refine pk 6 E (kc 13 rfl b) rfl fun a E=>nt<|wp_ret<|o1 E rfl<|have H:=H.drop 0;?_
  cases hm
  exact ⟨rfl,H.reads Y0⟩

def vI(b:ByteArray):Option ByteArray:=
  (p9 b).bind fun c=>some (c.2.1)
theorem S3{b:ByteArray}(H:Sep w (Fo) rs){r:ByteArray}(hm:vI b=some r) :
    Cf 207 [.string b] w fun v w'=>.string r=v∧Sep w' (Fo) (rs):=by
 unfold vI at hm
 refine ent Tryz.func207 rfl Tryz.ntmps207 rfl rfl fun a E=>sp 1 E rfl fun a E=>xp 1 E rfl fun a E=>bd hm fun d c hm=>xk2 E rfl (cf_ 241) (Ig H c) fun w H a E=>pr 7 E rfl fun a E=>nx<|pn 2 E rfl fun a E=>wp_ret<|o1 E rfl<|?_
 cases hm
 exact ⟨rfl,H.reads Y0⟩

def nT(b:Bool)(c:cR):Option (Bool×cR):=
  some (b,c)
def nU(x1:aD)(b:List ByteArray)(c:Bool):Option (Bool×cR):=
  if c=true then ((vI x1.Path).bind fun d=>(ck (b.length+([d]:List ByteArray).length ≤ LIM)).bind fun e=>nT c (b ++ ([d]:List ByteArray))) else (nT c b)
def nD(x1:aD)(e:Int)(c:ByteArray)(b:List ByteArray):Option (Bool×cR):=
  if (x1.Owner == e)=true then ((vH x1 c).bind fun d=>nU x1 b d) else (nU x1 b false)
theorem E1{x1:aD}{N j c g f:Nat}{O:Int}{k:ByteArray}{m n o p q s t u y z A B C D F G I J K:Value}{L:List ByteArray}(H:Sep w (Blk N 97 [n,o,p,q,s,.int .i64 O,t]::Blk j 121 [.func (.func 283) #[] #[pt c 0]]::Blk c 97 [u,y,.string k,z,A,B,C]::Blk g 182 [pt f 0]::Blk f 185 [D,F,G,I,J,K,m]::Row 9 kS m L::Fo) rs){r:Bool×cR}(hm:nD x1 O k L=some r) :
    Cf 216 [.agg (dS x1).toArray,pt N 0,pt j 0,pt g 0] w fun v w'=>∃ X,.bool r.1=v∧Sep w' (Blk N 97 [n,o,p,q,s,.int .i64 O,t]::Blk j 121 [.func (.func 283) #[] #[pt c 0]]::Blk c 97 [u,y,.string k,z,A,B,C]::Blk g 182 [pt f 0]::Blk f 185 [D,F,G,I,J,K,X]::Row 9 kS X r.2::Fo) (rs):=by
 unfold nD at hm
 refine ent Tryz.func216 rfl Tryz.ntmps216 rfl rfl fun a E=>sq<|bx E H rfl fun S w a H E=>pn 1 E rfl fun a E=>aK (fun a w=>∃ l,Jn 33 a w [(3,pt g 0),(4,pt S 0),(6,.bool l)] (Blk g 182 [pt f 0]::Blk S 107 (dS x1)::Blk N 97 [n,o,p,q,s,.int .i64 O,t]::Blk j 121 [.func (.func 283) #[] #[pt c 0]]::Blk c 97 [u,y,.string k,z,A,B,C]::Blk f 185 [D,F,G,I,J,K,m]::Row 9 kS m L::Fo) rs (nU x1 L l=some r)) ?_ ?_
 ·refine wp_region_lit<|pr 1 E rfl fun a E=>lb2 E H 0 U2 rfl fun a E=>pr 1 E rfl fun a E=>lb2 E H 1 U2 rfl fun a E=>pr 2 E rfl fun a E=>cs hm (fun b hm=>?_) fun b hm=>?_
  ·refine gl 12 E H 2 b HM rfl fun a E=>gv 12 E b rfl (B8 (i:=0) (us:=(dS x1)) E H rfl rfl rfl rfl pF rfl cJ) fun a E=>have H:=H.frs [6,6,6,5,5,5,6] rfl;bd hm fun b0 T hm=>bM E (ws' (d:=12) E rfl rfl rfl rfl b) rfl rfl (bO E rfl rfl rfl ((cf_ 283) _)) (S2 H T)<|?_
   rintro _ w ⟨rfl,H⟩ a E
   exact pk 2 E (kc 12 rfl b) rfl fun a E=>nt<|have H:=H.frs [6,6,2,5,5,5,6] rfl;⟨_,_,E.to rfl,H,Y0,hm⟩
  ·exact pk 5 E (kc 12 rfl b) rfl fun a E=>nt<|have H:=H.frs [6,6,5,5,5,5,6] rfl;⟨_,_,E.to rfl,H,Y0,hm⟩
 ·clear E H hm
  rintro a w ⟨l,Y,E,H,P,hm⟩
  unfold nU at hm
  refine aK (fun a w=>∃ Q R,Jn 33 a w [(6,.bool l)] (Blk N 97 [n,o,p,q,s,.int .i64 O,t]::Blk j 121 [.func (.func 283) #[] #[pt c 0]]::Blk c 97 [u,y,.string k,z,A,B,C]::Blk g 182 [pt f 0]::Blk f 185 [D,F,G,I,J,K,Q]::Row 9 kS Q R::Fo) rs (nT l R=some r)) ?_ ?_
  ·refine sq<|pn 1 E rfl fun a E=>wif E hm rfl (fun hm=>?_) fun hm=>?_
   ·refine dz [0,0,0,0,0,0,0,0,1,1,1,2,2,2,2] [0,1,5] H fun w W0 hI H=>fb2 E m0 Sb rfl fun a E=>fb2 E m0 Sb rfl fun a E=>fn 3 E rfl fun a E=>fb2 E mm2 U33 rfl fun a E=>fn 1 E rfl fun a E=>fb2 E mm1 U9 rfl fun a E=>bI rfl<|bd hm fun M U hm=>xk2 E rfl (cf_ 207) (S3 H U) fun w H a E=>nt<|⟨sx H [0,1,5] rfl,bI rfl<|iV (e:=9) (d:=kS) (cs:=[.string M]) (xs:=[M]) E H (wn rfl) rfl rfl rfl (E.evs rfl) (by kernel_rfl) rfl (fun ok hr=>(Rows.single (d:=kS) (cs:=[.string M]) (x:=M) rfl)) fun b1 w a H E=>nt<|⟨sx H [0,1,5] rfl,bI rfl<|bk hm fun V hm=>cO (i:=6) E H (wn rfl) rfl rfl rfl rfl rfl rfl (fA m0) U33 Z5 rfl V rfl fun b2 w a H E=>nt<|⟨sx H [0,1,5] rfl,bL rfl<|pn 1 E rfl fun a E=>bL rfl<|pn 1 E rfl fun a E=>bL rfl<|pn 1 E rfl fun a E=>bL rfl<|?_⟩⟩⟩
    obtain ⟨q63,b3,rfl⟩:=H.rowform (i:=6) rfl
    refine ss 5 E H rfl DQ rfl fun w H=>nt<|aY<|?_
    clear hI
    exact aA<|have H:=H.drop 1;have H:=H.frs [5,5,2,5,5,5] rfl;X3 ⟨E.to rfl,H,(Y1 P),hm⟩
   ·exact wp_skip<|aA<|have H:=H.drop 1;have H:=H.frs [5,5,2,5,5,5] rfl;X3 ⟨E.to rfl,H,P,hm⟩
  ·clear E H hm
   rintro a w ⟨Q,R,Z,E,H,W,hm⟩
   unfold nT at hm
   refine sq<|pn 2 E rfl fun a E=>wp_ret<|o1 E rfl<|?_
   cases hm
   exact ⟨_,rfl,H.reads W⟩

def cF(f:List aD)(g:Int)(d:ByteArray):Nat→Int→cR→Option (Int×cR)
  | 0,_,_=>none
  | j+1,b,e=>
    if (decide (b < (f.length:Int)))=true then ((idx f b).bind fun i=>(nD i g d e).bind fun c=>if c.1=true then (some (b,c.2)) else (cF f g d j (IntKind.i64.wrap (b+1)) c.2)) else (some ((-1),e))
def gI(b:List aD)(e:Int)(c:ByteArray)(d:List ByteArray):Option (Int×cR):=
  cF b e c (((b.length:Int) - 0:Int).toNat+1) 0 d
theorem yH{e R p q s t u x y z A B C D F G I J K:Value}{l:List aD}{L f b g c:Nat}{M:Int}{j:ByteArray}{S:List ByteArray}(H:Sep w (Row 107 aB e l::Blk L 97 [p,q,s,t,u,.int .i64 M,x]::Blk f 121 [.func (.func 283) #[] #[pt b 0]]::Blk b 97 [y,z,.string j,A,B,C,D]::Blk g 182 [pt c 0]::Blk c 185 [e,F,G,I,J,K,R]::Row 9 kS R S::Fo) rs){r:Int×cR}(hm:gI l M j S=some r) :
    Cf 142 [e,.func (.func 216) #[] #[pt L 0,pt f 0,pt g 0]] w fun v w'=>∃ U,.int .i64 r.1=v∧Sep w' (Blk L 97 [p,q,s,t,u,.int .i64 M,x]::Blk f 121 [.func (.func 283) #[] #[pt b 0]]::Blk b 97 [y,z,.string j,A,B,C,D]::Blk g 182 [pt c 0]::Blk c 185 [e,F,G,I,J,K,U]::Row 107 aB e l::Row 9 kS U r.2::Fo) (rs):=by
 unfold gI at hm
 refine ent Tryz.func142 rfl Tryz.ntmps142 rfl rfl fun a E=>sq<|pn 1 E rfl fun a E=>wp_seq<|sp 1 E rfl fun a E=>sv2 E rfl (iJ (i:=0) E H rfl rfl rfl U22) fun a E=>pr 1 E rfl fun a E=>nt<|wp_block<|bD (fun o a w=>∃ N O P,Jn 19 a w [(0,e),(1,.func (.func 216) #[] #[pt L 0,pt f 0,pt g 0]),(7,.int .i64 (l.length:Int)),(8,.int .i64 O)] (Row 107 aB e l::Blk L 97 [p,q,s,t,u,.int .i64 M,x]::Blk f 121 [.func (.func 283) #[] #[pt b 0]]::Blk g 182 [pt c 0]::Blk b 97 [y,z,.string j,A,B,C,D]::Blk c 185 [e,F,G,I,J,K,N]::Row 9 kS N P::Fo) rs (cF l M j o O P=some r)) (((l.length:Int) - 0:Int).toNat+1) ?_ ?_
 ·exact have H:=H.frs [6,6,5,6,6,6,6] rfl;X4 ⟨E.to rfl,H,Y0,hm⟩
 ·clear E H hm
  rintro o a w ⟨N,O,P,V,E,H,m,hm⟩
  cases o with
  | zero=>exact (aZ hm rfl).elim
  | succ o=>
   unfold cF at hm
   refine sq<|pn 1 E rfl fun a E=>wp_seq<|wif E hm rfl (fun hm=>?_) fun hm=>?_
   ·refine wp_skip<|aA<|wp_seq<|wp_block<|sp 2 E rfl fun a E=>xp 3 E rfl fun a E=>bd hm fun k n hm=>?_
    obtain ⟨W,X,Q⟩:=H.rowformNE (i:=0) rfl n
    refine sv2 E rfl (cX (d:=aB) E Q rfl rfl rfl rfl U22 cJ n) fun a E=>sv2 E rfl (lP (i:=0) E H bX Q rfl rfl rfl n (us:=[.string k.Path,.string k.Data,.int .i64 k.Version,.int .i64 k.Turn,.int .i64 k.Owner]) rfl pF rfl cJ) fun a E=>have H:=H.frs [0,6,6,5,6,6,6] rfl;bd hm fun Y T hm=>bM E (wn rfl) rfl rfl (bO E rfl rfl rfl ((cf_ 216) _)) (E1 H T)<|?_
    rintro _ w ⟨Z,rfl,H⟩ a E
    refine nt<|wif E hm rfl (fun hm=>?_) fun hm=>?_
    ·refine sq<|pn 2 E rfl fun a E=>wp_ret<|bF<|aG<|aG<|bF<|aG<|o1 E rfl<|have H:=H.frs [5,6,6,6,6,6,6] rfl;?_
     cases hm
     exact ⟨_,rfl,H.reads m⟩
    ·exact wp_skip<|bH<|aA<|wp_region_lit<|pn 2 E rfl fun a E=>have H:=H.frs [5,5,4,5,5,5,6] rfl;⟨o,Nat.lt_succ_self o,X4 ⟨E.to rfl,H,m,hm⟩⟩
   ·refine wp_exit<|aL<|aL<|cH<|aA<|sq<|pn 1 E rfl fun a E=>wp_ret<|o1 E rfl<|have H:=H.frs [6,1,6,5,6,6,6] rfl;?_
    cases hm
    exact ⟨_,rfl,H.reads m⟩

def eK(rec_1:cD→Int→Int→cR→Option Ia)(b:Int)(c:cD)(d:Int)(e:cR):Option Ia:=
  rec_1 c d (IntKind.i64.wrap (b+1)) e
def cL(j:Int)(e:ByteArray):Nat→cD→Int→Int→cR→Option Ia
  | 0,_,_,_,_=>none
  | k+1,c,b,d,g=>
    if (decide (d < (c.length:Int)))=true then ((idx c d).bind fun i=>(nD i j e g).bind fun f=>if (!f.1)=true then ((idx c b).bind fun l=>eK (cL j e k) d (c.set b.toNat i) (IntKind.i64.wrap (b+1)) f.2) else (eK (cL j e k) d c b f.2)) else ((ck (0 ≤ b∧b ≤ c.length)).bind fun m=>(ck (0 ≤ b∧b ≤ (c.take b.toNat ++ List.replicate (c.length - b.toNat) (⟨⟨#[]⟩,⟨#[]⟩,0,0,0⟩:aD)).length)).bind fun n=>some ((c.take b.toNat ++ List.replicate (c.length - b.toNat) (⟨⟨#[]⟩,⟨#[]⟩,0,0,0⟩:aD)).take b.toNat,g))
def gL(c:List aD)(e:Int)(d:ByteArray)(f:List ByteArray):Option Ia:=
  (gI c e d f).bind fun b=>if (b.1 == (-1))=true then (some (c,b.2)) else (cL e d (((c.length:Int) - (IntKind.i64.wrap (b.1+1)):Int).toNat+1) c b.1 (IntKind.i64.wrap (b.1+1)) b.2)
theorem zD{k Z t u x y z A B C D F G I J K L M N:Value}{b1:List aD}{m f c g e:Nat}{n:Int}{j:ByteArray}{b0:List ByteArray}(H:Sep w (Row 107 aB k b1::Blk m 97 [t,u,x,y,z,.int .i64 n,A]::Blk f 121 [.func (.func 283) #[] #[pt c 0]]::Blk c 97 [B,C,.string j,D,F,G,I]::Blk g 182 [pt e 0]::Blk e 185 [k,J,K,L,M,N,Z]::Row 9 kS Z b0::Fo) rs){r:cD×cR}(hm:gL b1 n j b0=some r) :
    Cf 215 [k,.func (.func 216) #[] #[pt m 0,pt f 0,pt g 0]] w fun v w'=>∃ b6 b7,b6=v∧Sep w' (Row 107 aB b6 r.1::Blk m 97 [t,u,x,y,z,.int .i64 n,A]::Blk f 121 [.func (.func 283) #[] #[pt c 0]]::Blk c 97 [B,C,.string j,D,F,G,I]::Blk g 182 [pt e 0]::Blk e 185 [k,J,K,L,M,N,b7]::Row 9 kS b7 r.2::Fo) (rs):=by
 unfold gL at hm
 refine ent Tryz.func215 rfl Tryz.ntmps215 rfl rfl fun a E=>sp 1 E rfl fun a E=>xp 2 E rfl fun a E=>bd hm fun b8 b2 hm=>xc2 E rfl (cf_ 142) (yH H b2)<|?_
 rintro _ w ⟨c1,rfl,H⟩ a E
 refine pn 1 E rfl fun a E=>wp_seq<|sq<|pn 2 E rfl fun a E=>wif E hm rfl (fun hm=>?_) fun hm=>?_
 ·refine sq<|pn 2 E rfl fun a E=>wp_ret<|aG<|o1 E rfl<|have H:=H.frs [6,5,5,5,5,5,6] rfl;?_
  cases hm
  exact ⟨_,_,rfl,H.reads Y0⟩
 ·refine wp_skip<|aA<|wp_seq<|sq<|pn 3 E rfl fun a E=>wp_block<|bD (fun o a w=>∃ O P Q l R,Jn 42 a w [(0,k),(1,.func (.func 216) #[] #[pt m 0,pt f 0,pt g 0]),(5,.int .i64 Q),(6,.int .i64 l)] (Row 107 aB k P::Blk m 97 [t,u,x,y,z,.int .i64 n,A]::Blk f 121 [.func (.func 283) #[] #[pt c 0]]::Blk g 182 [pt e 0]::Blk c 97 [B,C,.string j,D,F,G,I]::Blk e 185 [k,J,K,L,M,N,O]::Row 9 kS O R::Fo) rs (cL n j o P Q l R=some r)) (((b1.length:Int) - (IntKind.i64.wrap (b8.1+1)):Int).toNat+1) ?_ ?_
  ·exact have H:=H.frs [6,5,4,5,5,5,6] rfl;X6 ⟨E.to rfl,H,Y0,hm⟩
  ·clear E H hm
   rintro o a w ⟨O,P,Q,l,R,b9,E,H,p,hm⟩
   cases o with
   | zero=>exact (aZ hm rfl).elim
   | succ o=>
    unfold cL at hm
    refine wp_seq<|sp 2 E rfl fun a E=>sv2 E rfl (iJ (i:=0) E H rfl rfl rfl U22) fun a E=>pn 1 E rfl fun a E=>wif E hm rfl (fun hm=>?_) fun hm=>?_
    ·refine wp_skip<|aA<|aK (fun a w=>∃ S T U V,Jn 42 a w [(0,k),(1,.func (.func 216) #[] #[pt m 0,pt f 0,pt g 0]),(5,.int .i64 U),(6,.int .i64 l)] (Row 107 aB k T::Blk m 97 [t,u,x,y,z,.int .i64 n,A]::Blk f 121 [.func (.func 283) #[] #[pt c 0]]::Blk g 182 [pt e 0]::Blk c 97 [B,C,.string j,D,F,G,I]::Blk e 185 [k,J,K,L,M,N,S]::Row 9 kS S V::Fo) rs (eK (cL n j o) l T U V=some r)) ?_ ?_
     ·refine wp_block<|sp 2 E rfl fun a E=>bd hm fun b q hm=>?_
      obtain ⟨c2,c3,W⟩:=H.rowformNE (i:=0) rfl q
      refine sv2 E rfl (cX (d:=aB) E W rfl rfl rfl rfl U22 cJ q) fun a E=>sv2 E rfl (lP (i:=0) E H bX W rfl rfl rfl q (us:=[.string b.Path,.string b.Data,.int .i64 b.Version,.int .i64 b.Turn,.int .i64 b.Owner]) rfl pF rfl cJ) fun a E=>al2 E H rfl Dn fun c4 w a H E=>ss 0 E H rfl cJ rfl fun w H=>xp 1 E rfl fun a E=>ln 0 (dS b) E H pF rfl cJ fun a E=>have H:=H.frs [1,1,7,7,6,7,7,7] rfl;bd hm fun c5 b3 hm=>bM E (wn rfl) rfl rfl (bO E rfl rfl rfl ((cf_ 216) _)) (E1 H b3)<|?_
      rintro _ w ⟨c6,rfl,H⟩ a E
      refine pn 1 E rfl fun a E=>wif E hm rfl (fun hm=>?_) fun hm=>?_
      ·refine sp 2 E rfl fun a E=>ln 6 (dS b) E H pF rfl cJ fun a E=>bd hm fun c7 s hm=>?_
       obtain ⟨c8,c9,X⟩:=H.rowformNE (i:=7) rfl s
       exact sv2 E rfl (cX (d:=aB) E X rfl rfl rfl rfl U22 cJ s) fun a E=>K6 (d:=aB) (i:=7) (us:=[.string b.Path,.string b.Data,.int .i64 b.Version,.int .i64 b.Turn,.int .i64 b.Owner]) (z':=b) E H bX (wn rfl) rfl X rfl rfl rfl rfl rfl rfl rfl s cJ fun w H=>nt<|wp_region_lit<|pr 3 E rfl fun a E=>wpList_nil<|bH<|aA<|have H:=H.drop 6;have H:=H.frs [5,5,4,5,5,5,6] rfl;X5 ⟨E.to rfl,H,p,hm⟩
      ·exact wp_skip<|bH<|aA<|have H:=H.drop 6;have H:=H.frs [5,5,4,5,5,5,6] rfl;X5 ⟨E.to rfl,H,p,hm⟩
     ·clear E H hm
      rintro a w ⟨S,T,U,V,c0,E,H,b4,hm⟩
      unfold eK at hm
      exact wp_region_lit<|pn 3 E rfl fun a E=>⟨o,Nat.lt_succ_self o,X6 ⟨E.to rfl,H,b4,hm⟩⟩
    ·refine wp_exit<|aL<|aL<|cH<|aA<|sp 2 E rfl fun a E=>bk hm fun Y hm=>sv2 E rfl (Fh (d:=aB) (i:=0) E H rfl rfl rfl rfl U22 cJ Y) fun a E=>Q2 (i:=0) (z0:=(⟨⟨#[]⟩,⟨#[]⟩,0,0,0⟩:aD)) E H bX (wn rfl) rfl rfl rfl U22 DS rfl rfl rfl Y fun w H=>xp 2 E rfl fun a E=>bk hm fun b5 hm=>Br (i:=0) E H bX (wn rfl) rfl rfl rfl rfl rfl rfl U22 cJ b5 fun d0 a H E=>pn 1 E rfl fun a E=>wp_ret<|o1 E rfl<|have H:=H.frs [6,6,5,6,6,6,6] rfl;?_
     cases hm
     exact ⟨_,_,rfl,H.reads p⟩

def sM(f:List aD)(d:List ByteArray)(b:aQ):Option Ia:=
  (wR b).bind fun e=>(gL f b.Owner e.2.2.1 d).bind fun c=>some (c.1,c.2)
theorem Eb{l:Nat}{o c d e f g j:Value}{p:List aD}{k:List ByteArray}{b:aQ}(H:Sep w (Blk l 185 [o,d,e,f,g,j,c]::Row 107 aB o p::Row 9 kS c k::Fo) rs){r:cD×cR}(hm:sM p k b=some r) :
    Cf 134 [pt l 0,.agg (bE b).toArray] w fun v w'=>∃ q s,.tuple #[]=v∧Sep w' (Blk l 185 [q,d,e,f,g,j,s]::Row 107 aB q r.1::Row 9 kS s r.2::Fo) (rs):=by
 unfold sM at hm
 refine ent Tryz.func134 rfl Tryz.ntmps134 rfl rfl fun a E=>sq<|bx E H rfl fun t w a H E=>bx E H rfl fun u w a H E=>nx<|ln 0 (bE b) E H U97 rfl hU fun a E=>bd hm fun x m hm=>xc2 E rfl (cf_ 213) (Ch H m)<|?_
 rintro _ w ⟨y,rfl,H⟩ a E
 refine al1 E H rfl rfl rfl rfl GM rfl fun z w a H E=>ss 0 E H rfl GN rfl fun w H=>nt<|dw [(6,0),(0,0),(1,1),(2,0),(3,0),(4,0),(5,1),(7,1),(8,2),(9,2),(10,2),(11,2)] [3] [] H (by kernel_rfl) (fun _ _ _ h=>False.elim h.2) fun w W0 hI H=>fv E rfl (fun w hW=>(nM E rfl rfl rfl)) fun a E=>fb2 E m0 Sb rfl fun a E=>bI rfl<|lb2 E H 3 Sb rfl fun a E=>nt<|⟨sx H [3] rfl,fn 3 E rfl fun a E=>bI rfl<|lb2 E H 4 U22 rfl fun a E=>nt<|⟨sx H [3] rfl,bI rfl<|have H:=H.frs [6,5,5,4,4,5,6] rfl;bd hm fun A n hm=>xc2 E rfl (cf_ 215) (zD H n)<|?_⟩⟩
 rintro _ w ⟨B,C,rfl,H⟩ a E
 refine nt<|⟨sx H [4] rfl,bL rfl<|pn 1 E rfl fun a E=>bL rfl<|pn 1 E rfl fun a E=>bL rfl<|pn 1 E rfl fun a E=>bL rfl<|?_⟩
 obtain ⟨q28,D,rfl⟩:=H.rowform (i:=0) rfl
 refine ss 5 E H rfl Bz rfl fun w H=>nt<|aY<|?_
 clear hI
 refine vC E rfl<|have H:=H.drs [1,1,1,1];have H:=H.frs [2,1,2] rfl;?_
 cases hm
 exact ⟨_,_,rfl,H.reads Y0⟩

def yI:Option Unit:=
  some ()
theorem Ba{b:Value}(H:Sep w (Fo) rs){r:Unit}(hm:yI=some r) :
    Cf 214 [b] w fun v w'=>.int .i64 0=v∧Sep w' (Fo) (rs):=by
 unfold yI at hm
 refine ent Tryz.func214 rfl Tryz.ntmps214 rfl rfl fun a E=>sp 1 E rfl fun a E=>nx<|pn 1 E rfl fun a E=>wp_ret<|o1 E rfl<|?_
 cases hm
 exact ⟨rfl,H.reads Y0⟩

def rQ(x1:aJ)(b:ByteArray):Option Int:=
  (qA x1.Dir b).bind fun c=>some (c)
theorem I3{x1:aJ}{b:ByteArray}(H:Sep w (Fo) rs){r:Int}(hm:rQ x1 b=some r) :
    Cf 275 [.agg #[.string x1.Dir,.int .i64 x1.Next],.string b] w fun v w'=>.int .i64 r=v∧Sep w' (Fo) (rs):=by
 unfold rQ at hm
 refine ent Tryz.func275 rfl Tryz.ntmps275 rfl rfl fun a E=>sq<|bx E H rfl fun d w a H E=>pr 1 E rfl fun a E=>xp 1 E rfl fun a E=>lb2 E H 0 U9 rfl fun a E=>pr 1 E rfl fun a E=>bd hm fun e c hm=>xk2 E rfl (cf_ 113) (vO H c) fun w H a E=>pn 1 E rfl fun a E=>wp_ret<|o1 E rfl<|have H:=H.drop 0;?_
 cases hm
 exact ⟨rfl,H.reads Y0⟩

def cA(c:List aJ)(e:ByteArray):Nat→Int→Int→Option a7
  | 0,_,_=>none
  | f+1,b,d=>
    if (decide (b < d))=true then ((idx c (IntKind.i64.wrap (wT .u64 (IntKind.u64.wrap (IntKind.i64.wrap (b+d))) 1))).bind fun k=>(rQ k e).bind fun g=>if (decide (g < 0))=true then (cA c e f (IntKind.i64.wrap ((IntKind.i64.wrap (wT .u64 (IntKind.u64.wrap (IntKind.i64.wrap (b+d))) 1))+1)) d) else (cA c e f b (IntKind.i64.wrap (wT .u64 (IntKind.u64.wrap (IntKind.i64.wrap (b+d))) 1)))) else (if (decide (b < (c.length:Int)))=true then ((idx c b).bind fun i=>(rQ i e).bind fun j=>some (b,j == 0)) else (some (b,false)))
def cC(b:List aJ)(c:ByteArray):Option a7:=
  cA b c (((b.length:Int) - 0:Int).toNat+1) 0 (b.length:Int)
theorem fP{j:Value}{e:List aJ}{n:ByteArray}(H:Sep w (Row 89 aC j e::Fo) rs){r:Int×Bool}(hm:cC e n=some r) :
    Cf 274 [j,.string n,.func (.func 275) #[] #[]] w fun v w'=>.tuple #[.int .i64 r.1,.bool r.2]=v∧Sep w' (Row 89 aC j e::Fo) (rs):=by
 unfold cC at hm
 refine ent Tryz.func274 rfl Tryz.ntmps274 rfl rfl fun a E=>sp 2 E rfl fun a E=>xp 1 E rfl fun a E=>sv2 E rfl (iJ (i:=0) E H rfl rfl rfl U23) fun a E=>pr 1 E rfl fun a E=>xp 3 E rfl fun a E=>nt<|wp_seq<|wp_block<|bD (fun c a w=>∃ p q,Jn 49 a w [(0,j),(1,.string n),(2,.func (.func 275) #[] #[]),(8,.int .i64 (e.length:Int)),(9,.int .i64 p),(10,.int .i64 q)] (Row 89 aC j e::Fo) rs (cA e n c p q=some r)) (((e.length:Int) - 0:Int).toNat+1) ?_ ?_
 ·exact X3 ⟨E.to rfl,H,Y0,hm⟩
 ·clear E H hm
  rintro c a w ⟨p,q,x,E,H,g,hm⟩
  cases c with
  | zero=>exact (aZ hm rfl).elim
  | succ c=>
   unfold cA at hm
   refine wp_seq<|sq<|pn 3 E rfl fun a E=>wif E hm rfl (fun hm=>?_) fun hm=>?_
   ·refine wp_skip<|aA<|wp_block<|sp 4 E rfl fun a E=>sv2 E rfl (Gv E rfl rfl rfl (by decide)) fun a E=>pr 2 E rfl fun a E=>xp 3 E rfl fun a E=>bd hm fun u k hm=>?_
    obtain ⟨y,z,l⟩:=H.rowformNE (i:=0) rfl k
    refine sv2 E rfl (cX (d:=aC) E l rfl rfl rfl rfl U23 iS k) fun a E=>sv2 E rfl (lP (i:=0) E H dT l rfl rfl rfl k (us:=[.string u.Dir,.int .i64 u.Next]) rfl U89 rfl iS) fun a E=>pr 1 E rfl fun a E=>bd hm fun A s hm=>bM E (wn rfl) rfl rfl (bO E rfl rfl rfl ((cf_ 275) _)) (I3 H s)<|?_
    rintro _ w ⟨rfl,H⟩ a E
    refine pn 1 E rfl fun a E=>wif E hm rfl (fun hm=>?_) fun hm=>?_
    ·exact wp_region_lit<|pr 3 E rfl fun a E=>wpList_nil<|bH<|aA<|⟨c,Nat.lt_succ_self c,X3 ⟨E.to rfl,H,g,hm⟩⟩
    ·exact wp_region_lit<|pr 2 E rfl fun a E=>wpList_nil<|bH<|aA<|⟨c,Nat.lt_succ_self c,X3 ⟨E.to rfl,H,g,hm⟩⟩
   ·refine wp_exit<|aL<|aL<|cH<|aA<|sp 5 E rfl fun a E=>cs hm (fun b hm=>?_) fun b hm=>?_
    ·refine pk 3 E (kc 39 rfl b) rfl fun a E=>bd hm fun o f hm=>?_
     obtain ⟨B,C,m⟩:=H.rowformNE (i:=0) rfl f
     refine gv 39 E b rfl (cX (d:=aC) E m rfl rfl rfl rfl U23 iS f) fun a E=>gv 39 E b rfl (lP (i:=0) E H dT m rfl rfl rfl f (us:=[.string o.Dir,.int .i64 o.Next]) rfl U89 rfl iS) fun a E=>pk 1 E (kc 39 rfl b) rfl fun a E=>bd hm fun D t hm=>bM E (ws' (d:=39) E rfl rfl rfl rfl b) rfl rfl (bO E rfl rfl rfl ((cf_ 275) _)) (I3 H t)<|?_
     rintro _ w ⟨rfl,H⟩ a E
     refine pk 4 E (kc 39 rfl b) rfl fun a E=>nt<|wp_ret<|fW E rfl rfl rfl<|?_
     cases hm
     exact ⟨rfl,H.reads g⟩
    ·refine pk 11 E (kc 39 rfl b) rfl fun a E=>nt<|wp_ret<|fW E rfl rfl rfl<|?_
     cases hm
     exact ⟨rfl,H.reads g⟩

def qR(b:aJ)(c:cP):Option K9:=
  some (b.Next,c)
def nE(b:Int×Bool)(c:cP):Option K9:=
  (idx c b.1).bind fun e=>yI.bind fun g=>(idx c b.1).bind fun d=>(idx (c.set b.1.toNat ({ d with Next:=0 }:aJ)) b.1).bind fun f=>if (f.Next == 0)=true then ((ck (0 ≤ b.1∧b.1 < (c.set b.1.toNat ({ d with Next:=0 }:aJ)).length∧IntKind.i64.wrap (b.1+1)=b.1+1)).bind fun i=>qR e ((c.set b.1.toNat ({ d with Next:=0 }:aJ)).eraseIdx b.1.toNat)) else (qR e (c.set b.1.toNat ({ d with Next:=0 }:aJ)))
def tK(c:List aJ)(d:ByteArray):Option K9:=
  (cC c d).bind fun b=>if (!b.2)=true then ((ck (0 ≤ b.1∧b.1 ≤ c.length∧c.length ≤ 1000000)).bind fun e=>nE b (c.take b.1.toNat ++ (⟨d,0⟩:aJ)::c.drop b.1.toNat)) else (nE b c)
theorem Gh{q:Nat}{M j l m n o p:Value}{N:List aJ}{b:ByteArray}(H:Sep w (Blk q 185 [j,M,l,m,n,o,p]::Row 89 aC M N::Fo) rs){r:Int×cP}(hm:tK N b=some r) :
    Cf 204 [pt q 0,.string b,.func (.func 214) #[] #[]] w fun v w'=>∃ O,.int .i64 r.1=v∧Sep w' (Blk q 185 [j,O,l,m,n,o,p]::Row 89 aC O r.2::Fo) (rs):=by
 unfold tK at hm
 refine ent Tryz.func204 rfl Tryz.ntmps204 rfl rfl fun a E=>sp 1 E rfl fun a E=>xp 4 E rfl fun a E=>lb2 E H 0 U23 rfl fun a E=>pr 1 E rfl fun a E=>have H:=H.frs [0,1] rfl;bd hm fun D G hm=>xk2 E rfl (cf_ 274) (fP H G) fun w H a E=>pn 5 E rfl fun a E=>aK (fun a w=>∃ s t,Jn 80 a w [(0,pt q 0),(2,.func (.func 214) #[] #[]),(7,.int .i64 D.1)] (Blk q 185 [j,s,l,m,n,o,p]::Row 89 aC s t::Fo) rs (nE D t=some r)) ?_ ?_
 ·refine sq<|pn 2 E rfl fun a E=>wif E hm rfl (fun hm=>?_) fun hm=>?_
  ·refine wp_region_lit<|pr 5 E rfl fun a E=>lb2 E H 1 U23 rfl fun a E=>pr 2 E rfl fun a E=>sv2 E rfl (bP E rfl (E.evs rfl) (v:=.agg #[.string b,.int .i64 0]) (by kernel_rfl)) fun a E=>gU (e:=89) (d:=aC) (cs:=[.string b,.int .i64 0]) (xs:=[(⟨b,0⟩:aJ)]) E H (wn rfl) rfl rfl rfl (E.evs rfl) (by kernel_rfl) rfl rfl (fun ok hr=>(Rows.single (d:=aC) (cs:=[.string b,.int .i64 0]) (x:=(⟨b,0⟩:aJ)) oD)) fun S w a H E=>bk hm fun I hm=>xc2 E rfl (cf_ 276) (Tn.insert_a (ix:=1) (iu:=0) H rfl rfl (by decide) I) fun T w H a E=>pr 3 E rfl fun a E=>?_
   obtain ⟨q55,U,rfl⟩:=H.rowform (i:=1) rfl
   exact ss 2 E H rfl Z6 rfl fun w H=>nt<|have H:=H.drop 0;have H:=H.frs [0,1] rfl;X3 ⟨E.to rfl,H,Y0,hm⟩
  ·exact wp_skip<|aA<|have H:=H.frs [0,1] rfl;X3 ⟨E.to rfl,H,Y0,hm⟩
 ·clear E H hm
  rintro a w ⟨s,t,Q,E,H,u,hm⟩
  unfold nE at hm
  refine sp 4 E rfl fun a E=>lb2 E H 0 U23 rfl fun a E=>pr 1 E rfl fun a E=>bd hm fun F c hm=>?_
  obtain ⟨V,W,y⟩:=H.rowformNE (i:=1) rfl c
  refine sv2 E rfl (cX (d:=aC) E y rfl rfl rfl rfl U23 iS c) fun a E=>pr 1 E rfl fun a E=>sv2 E rfl (mW (d:=aC) (i:=1) (k:=1) E H dT y rfl rfl rfl c rfl U2 rfl) fun a E=>pn 1 E rfl fun a E=>aK (fun a w=>∃ z A,Jn 80 a w [(9,.int .i64 F.Next)] (Blk q 185 [j,z,l,m,n,o,p]::Row 89 aC z A::Fo) rs (qR F A=some r)) ?_ ?_
  ·refine wp_seq<|dz [0,0,0,0,0,0,0,0,1,2,2,2] [0] H fun w W0 hI H=>fn 4 E rfl fun a E=>fb2 E m0 U23 rfl fun a E=>fn 3 E rfl fun a E=>bI rfl<|bd hm fun X J hm=>bM E (wn rfl) rfl rfl (bO E rfl rfl rfl ((cf_ 214) _)) (Ba H J)<|?_
   rintro _ w ⟨rfl,H⟩ a E
   refine nt<|⟨sx H [0] rfl,bL rfl<|bd hm fun P f hm=>?_⟩
   obtain ⟨Y,Z,B⟩:=H.rowformNE (i:=1) rfl f
   refine sv2 E rfl (cX (d:=aC) E B rfl rfl rfl rfl U23 iS f) fun a E=>nt<|bL rfl<|pn 1 E rfl fun a E=>bL rfl<|H8 (d:=aC) (i:=1) (k:=1) (z':=({ P with Next:=0 }:aJ)) E H dT (wn rfl) rfl B rfl rfl rfl rfl rfl rfl f rfl rfl sz2 fun w H=>nt<|aY<|?_
   clear hI
   refine aA<|sp 4 E rfl fun a E=>lb2 E H 0 U23 rfl fun a E=>pr 1 E rfl fun a E=>bd hm fun b0 g hm=>?_
   obtain ⟨b1,b2,C⟩:=H.rowformNE (i:=1) rfl g
   refine sv2 E rfl (cX (d:=aC) E C rfl rfl rfl rfl U23 iS g) fun a E=>pr 1 E rfl fun a E=>sv2 E rfl (mW (d:=aC) (i:=1) (k:=1) E H dT C rfl rfl rfl g rfl U2 rfl) fun a E=>pn 1 E rfl fun a E=>wif E hm rfl (fun hm=>?_) fun hm=>?_
   ·refine wp_region_lit<|pr 5 E rfl fun a E=>lb2 E H 0 U23 rfl fun a E=>pr 3 E rfl fun a E=>bk hm fun K hm=>xc2 E rfl (cf_ 277) (Tn.delete_c (ix:=1) H rfl K) fun b3 w H a E=>pr 3 E rfl fun a E=>?_
    obtain ⟨q49,b4,rfl⟩:=H.rowform (i:=1) rfl
    exact ss 0 E H rfl Z6 rfl fun w H=>nt<|X3 ⟨E.to rfl,H,u,hm⟩
   ·exact wp_skip<|aA<|X3 ⟨E.to rfl,H,u,hm⟩
  ·clear E H hm
   rintro a w ⟨z,A,R,E,H,L,hm⟩
   unfold qR at hm
   refine sq<|pn 2 E rfl fun a E=>wp_ret<|o1 E rfl<|?_
   cases hm
   exact ⟨_,rfl,H.reads L⟩

def cU(c:List aD)(d:ByteArray):Nat→Int→Option Int
  | 0,_=>none
  | f+1,b=>
    if (decide (b < (c.length:Int)))=true then ((idx c b).bind fun x20=>(vH x20 d).bind fun e=>if e=true then (some (b)) else (cU c d f (IntKind.i64.wrap (b+1)))) else (some ((-1)))
def gJ(b:List aD)(c:ByteArray):Option Int:=
  cU b c (((b.length:Int) - 0:Int).toNat+1) 0
theorem yJ{g j k l m n o:Value}{b:List aD}{p:Nat}{q:ByteArray}(H:Sep w (Row 107 aB g b::Blk p 97 [j,k,.string q,l,m,n,o]::Fo) rs){r:Int}(hm:gJ b q=some r) :
    Cf 142 [g,.func (.func 283) #[] #[pt p 0]] w fun v w'=>.int .i64 r=v∧Sep w' (Blk p 97 [j,k,.string q,l,m,n,o]::Row 107 aB g b::Fo) (rs):=by
 unfold gJ at hm
 refine ent Tryz.func142 rfl Tryz.ntmps142 rfl rfl fun a E=>sq<|pn 1 E rfl fun a E=>wp_seq<|sp 1 E rfl fun a E=>sv2 E rfl (iJ (i:=0) E H rfl rfl rfl U22) fun a E=>pr 1 E rfl fun a E=>nt<|wp_block<|bD (fun f a w=>∃ s,Jn 19 a w [(0,g),(1,.func (.func 283) #[] #[pt p 0]),(7,.int .i64 (b.length:Int)),(8,.int .i64 s)] (Row 107 aB g b::Blk p 97 [j,k,.string q,l,m,n,o]::Fo) rs (cU b q f s=some r)) (((b.length:Int) - 0:Int).toNat+1) ?_ ?_
 ·exact ⟨_,_,E.to rfl,H,Y0,hm⟩
 ·clear E H hm
  rintro f a w ⟨s,x,E,H,c,hm⟩
  cases f with
  | zero=>exact (aZ hm rfl).elim
  | succ f=>
   unfold cU at hm
   refine sq<|pn 1 E rfl fun a E=>wp_seq<|wif E hm rfl (fun hm=>?_) fun hm=>?_
   ·refine wp_skip<|aA<|wp_seq<|wp_block<|sp 2 E rfl fun a E=>xp 3 E rfl fun a E=>bd hm fun x20 e hm=>?_
    obtain ⟨y,z,t⟩:=H.rowformNE (i:=0) rfl e
    refine sv2 E rfl (cX (d:=aB) E t rfl rfl rfl rfl U22 cJ e) fun a E=>sv2 E rfl (lP (i:=0) E H bX t rfl rfl rfl e (us:=[.string x20.Path,.string x20.Data,.int .i64 x20.Version,.int .i64 x20.Turn,.int .i64 x20.Owner]) rfl pF rfl cJ) fun a E=>have H:=H.frs [0,1] rfl;bd hm fun A u hm=>bM E (wn rfl) rfl rfl (bO E rfl rfl rfl ((cf_ 283) _)) (S2 H u)<|?_
    rintro _ w ⟨rfl,H⟩ a E
    refine nt<|wif E hm rfl (fun hm=>?_) fun hm=>?_
    ·refine sq<|pn 2 E rfl fun a E=>wp_ret<|bF<|aG<|aG<|bF<|aG<|o1 E rfl<|?_
     cases hm
     exact ⟨rfl,H.reads c⟩
    ·exact wp_skip<|bH<|aA<|wp_region_lit<|pn 2 E rfl fun a E=>have H:=H.frs [0,1] rfl;⟨f,Nat.lt_succ_self f,_,_,E.to rfl,H,c,hm⟩
   ·refine wp_exit<|aL<|aL<|cH<|aA<|sq<|pn 1 E rfl fun a E=>wp_ret<|o1 E rfl<|have H:=H.frs [0,1] rfl;?_
    cases hm
    exact ⟨rfl,H.reads c⟩

def eF(c:List aD)(d:ByteArray):Option Bool:=
  (gJ c d).bind fun b=>some (decide (b ≥ 0))
theorem wO{i b c d e f g:Value}{j:List aD}{k:Nat}{l:ByteArray}(H:Sep w (Row 107 aB i j::Blk k 97 [b,c,.string l,d,e,f,g]::Fo) rs){r:Bool}(hm:eF j l=some r) :
    Cf 78 [i,.func (.func 283) #[] #[pt k 0]] w fun v w'=>.bool r=v∧Sep w' (Blk k 97 [b,c,.string l,d,e,f,g]::Row 107 aB i j::Fo) (rs):=by
 unfold eF at hm
 refine ent Tryz.func78 rfl Tryz.ntmps78 rfl rfl fun a E=>sp 1 E rfl fun a E=>xp 2 E rfl fun a E=>bd hm fun n m hm=>xk2 E rfl (cf_ 142) (yJ H m) fun w H a E=>pn 2 E rfl fun a E=>wp_ret<|o1 E rfl<|?_
 cases hm
 exact ⟨rfl,H.reads Y0⟩

def vP(j:List aD)(c:List aJ)(k:Int)(l:ByteArray)(m:ByteArray)(n:Int)(d:List ByteArray)(b:aQ):Option (cP×Int×ByteArray×ByteArray×Int×cR):=
  (wR b).bind fun e=>(eF j e.2.2.1).bind fun f=>if f=true then ((fG 64).bind fun g=>some (c,g,(ByteArray.mk #[]),(ByteArray.mk #[]),0,[])) else ((tK c b.Path).bind fun i=>some (i.2,k,l,m,n,d))
theorem Ec{f:Nat}{c m d:Value}{g:List aD}{n:List aJ}{o p:Int}{q s:ByteArray}{e:List ByteArray}{b:aQ}(H:Sep w (Blk f 185 [c,m,.int .i64 o,.string q,.string s,.int .i64 p,d]::Row 107 aB c g::Row 89 aC m n::Row 9 kS d e::Fo) rs){r:cP×Int×ByteArray×ByteArray×Int×cR}(hm:vP g n o q s p e b=some r) :
    Cf 128 [pt f 0,.agg (bE b).toArray] w fun v w'=>∃ t u,.tuple #[]=v∧Sep w' (Blk f 185 [c,t,.int .i64 r.2.1,.string r.2.2.1,.string r.2.2.2.1,.int .i64 r.2.2.2.2.1,u]::Row 107 aB c g::Row 89 aC t r.1::Row 9 kS u r.2.2.2.2.2::Fo) (rs):=by
 unfold vP at hm
 refine ent Tryz.func128 rfl Tryz.ntmps128 rfl rfl fun a E=>sq<|bx E H rfl fun x w a H E=>nt<|wp_seq<|wp_seq<|dz [0,0,0,0,0,0,1,1] [0,1] H fun w W0 hI H=>fn 4 E rfl fun a E=>fb2 E mm1 U22 rfl fun a E=>fbn E (bE b) rfl (wn rfl) rfl rfl rfl rfl m0 rfl U97 rfl hU fun a E=>bI rfl<|bd hm fun y i hm=>xc2 E rfl (cf_ 213) (Ch H i)<|?_
 rintro _ w ⟨z,rfl,H⟩ a E
 refine nt<|⟨sx H [1,2] rfl,bI rfl<|have H:=H.frs [5,5,4,4,4,5] rfl;bd hm fun A j hm=>xk2 E rfl (cf_ 78) (wO H j) fun w H a E=>nt<|⟨sx H [2,3] rfl,aY<|?_⟩⟩
 clear hI
 refine aA<|wif E hm rfl (fun hm=>?_) fun hm=>?_
 ·refine sp 1 E rfl fun a E=>have H:=H.frs [5,5,4,4,4,5] rfl;bd hm fun B k hm=>xk2 E rfl (cf_ 203) (oL H k) fun w H a E=>nt<|wp_ret<|aG<|Rf E rfl<|have H:=H.nilRow 9 kS;have H:=H.drs [2,3,4];have H:=H.frs [0,3,3,3] rfl;?_
  cases hm
  exact ⟨_,_,rfl,H.reads Y0⟩
 ·refine wp_skip<|aA<|wp_region_lit<|pr 2 E rfl fun a E=>lb2 E H 2 U9 rfl fun a E=>have H:=H.frs [5,3,3,3,5,5] rfl;bd hm fun C l hm=>xc2 E rfl (cf_ 204) (Gh H l)<|?_
  rintro _ w ⟨D,rfl,H⟩ a E
  refine wpList_nil<|vC E rfl<|have H:=H.drs [2,3];have H:=H.frs [3,2,3,3] rfl;?_
  cases hm
  exact ⟨_,_,rfl,H.reads Y0⟩

def pQ(b:Int×Int×ByteArray×ByteArray×Int×cR)(c:Bool):Option Ib:=
  if c=true then ((fG 65).bind fun d=>some (d,(ByteArray.mk #[]),(ByteArray.mk #[]),0,[])) else (some (b.2.1,b.2.2.1,b.2.2.2.1,b.2.2.2.2.1,b.2.2.2.2.2))
def sN(c:List aD)(g:Int)(i:ByteArray)(j:ByteArray)(k:Int)(d:List ByteArray)(e:aQ):Option Ib:=
  (gG c g i j k d e).bind fun b=>if (decide (0 ≤ b.1))=true then ((idx c b.1).bind fun f=>pQ b (f.Owner != 0)) else (pQ b false)
theorem Ed{g:Nat}{f q j:Value}{p:List aD}{y z:Int}{A B:ByteArray}{s:List ByteArray}{l:aQ}(H:Sep w (Blk g 185 [f,j,.int .i64 y,.string A,.string B,.int .i64 z,q]::Row 107 aB f p::Row 9 kS q s::Fo) rs){r:Int×ByteArray×ByteArray×Int×cR}(hm:sN p y A B z s l=some r) :
    Cf 125 [pt g 0,.agg (bE l).toArray] w fun v w'=>∃ C,.tuple #[]=v∧Sep w' (Blk g 185 [f,j,.int .i64 r.1,.string r.2.1,.string r.2.2.1,.int .i64 r.2.2.2.1,C]::Row 107 aB f p::Row 9 kS C r.2.2.2.2::Fo) (rs):=by
 unfold sN at hm
 refine ent Tryz.func125 rfl Tryz.ntmps125 rfl rfl fun a E=>sq<|bx E H rfl fun F w a H E=>xp 1 E rfl fun a E=>ln 0 (bE l) E H U97 rfl hU fun a E=>have H:=H.frs [0,3,3,3] rfl;bd hm fun c u hm=>xc2 E rfl (cf_ 202) (qZ H u)<|?_
 rintro _ w ⟨t,rfl,H⟩ a E
 refine pn 1 E rfl fun a E=>aK (fun a w=>∃ m,Jn 19 a w [(0,pt g 0),(16,.bool m)] (Blk g 185 [f,j,.int .i64 c.2.1,.string c.2.2.1,.string c.2.2.2.1,.int .i64 c.2.2.2.2.1,t]::Row 107 aB f p::Row 9 kS t c.2.2.2.2.2::Fo) rs (pQ c m=some r)) ?_ ?_
 ·refine wp_region_lit<|pr 1 E rfl fun a E=>sv2 E rfl (Hb E Hw Hx rfl rfl rfl) fun a E=>pr 1 E rfl fun a E=>cs hm (fun b hm=>?_) fun b hm=>?_
  ·refine pk 1 E (kc 10 rfl b) rfl fun a E=>bd hm fun G e hm=>?_
   obtain ⟨I,J,n⟩:=H.rowformNE (i:=1) rfl e
   rw [Bs 5 n e] at E
   exact pk 2 E (kc 10 rfl b) rfl fun a E=>gv 10 E b rfl (mW (d:=aB) (i:=1) (k:=4) E H bX n rfl rfl rfl e rfl U2 rfl) fun a E=>pk 2 E (kc 10 rfl b) rfl fun a E=>nt<|have H:=H.drop 3;⟨_,_,E.to rfl,H,Y0,hm⟩
  ·exact pk 6 E (kc 10 rfl b) rfl fun a E=>nt<|have H:=H.drop 3;⟨_,_,E.to rfl,H,Y0,hm⟩
 ·clear E H hm
  rintro a w ⟨m,D,E,H,o,hm⟩
  unfold pQ at hm
  refine wif E hm rfl (fun hm=>?_) fun hm=>?_
  ·refine wp_region_lit<|pr 1 E rfl fun a E=>bd hm fun K x hm=>xk2 E rfl (cf_ 203) (oL H x) fun w H a E=>wpList_nil<|vC E rfl<|have H:=H.nilRow 9 kS;have H:=H.drop 3;have H:=H.frs [0,2,2] rfl;?_
   cases hm
   exact ⟨_,rfl,H.reads o⟩
  ·refine wp_skip<|vC E rfl<|?_
   cases hm
   exact ⟨_,rfl,H.reads o⟩

def uT(e:List aD)(f:Int)(g:ByteArray)(i:ByteArray)(j:Int)(c:List ByteArray)(d:aQ):Option Ib:=
  (gG e f g i j c d).bind fun b=>some (b.2.1,b.2.2.1,b.2.2.2.1,b.2.2.2.2.1,b.2.2.2.2.2)
theorem Ij{g:Nat}{c d e:Value}{i:List aD}{k l:Int}{m n:ByteArray}{f:List ByteArray}{b:aQ}(H:Sep w (Blk g 185 [c,e,.int .i64 k,.string m,.string n,.int .i64 l,d]::Row 107 aB c i::Row 9 kS d f::Fo) rs){r:Int×ByteArray×ByteArray×Int×cR}(hm:uT i k m n l f b=some r) :
    Cf 132 [pt g 0,.agg (bE b).toArray] w fun v w'=>∃ o,.tuple #[]=v∧Sep w' (Blk g 185 [c,e,.int .i64 r.1,.string r.2.1,.string r.2.2.1,.int .i64 r.2.2.2.1,o]::Row 107 aB c i::Row 9 kS o r.2.2.2.2::Fo) (rs):=by
 unfold uT at hm
 refine ent Tryz.func132 rfl Tryz.ntmps132 rfl rfl fun a E=>sq<|bx E H rfl fun p w a H E=>nt<|wp_region_lit<|pr 1 E rfl fun a E=>ln 0 (bE b) E H U97 rfl hU fun a E=>have H:=H.frs [0,3,3,3] rfl;bd hm fun q j hm=>xc2 E rfl (cf_ 202) (qZ H j)<|?_
 rintro _ w ⟨s,rfl,H⟩ a E
 refine wpList_nil<|vC E rfl<|have H:=H.drop 3;?_
 cases hm
 exact ⟨_,rfl,H.reads Y0⟩

def tL(c:List aD)(g:Int)(i:ByteArray)(j:ByteArray)(k:Int)(d:List ByteArray)(e:aQ):Option Ib:=
  (gG c g i j k d e).bind fun b=>if (decide (0 ≤ b.1))=true then ((idx c b.1).bind fun f=>some (b.2.1,b.2.2.1,b.2.2.2.1,f.Version,b.2.2.2.2.2)) else (some (b.2.1,b.2.2.1,b.2.2.2.1,b.2.2.2.2.1,b.2.2.2.2.2))
theorem Gi{m:Nat}{f g j:Value}{n:List aD}{p q:Int}{s t:ByteArray}{l:List ByteArray}{c:aQ}(H:Sep w (Blk m 185 [f,j,.int .i64 p,.string s,.string t,.int .i64 q,g]::Row 107 aB f n::Row 9 kS g l::Fo) rs){r:Int×ByteArray×ByteArray×Int×cR}(hm:tL n p s t q l c=some r) :
    Cf 130 [pt m 0,.agg (bE c).toArray] w fun v w'=>∃ u,.tuple #[]=v∧Sep w' (Blk m 185 [f,j,.int .i64 r.1,.string r.2.1,.string r.2.2.1,.int .i64 r.2.2.2.1,u]::Row 107 aB f n::Row 9 kS u r.2.2.2.2::Fo) (rs):=by
 unfold tL at hm
 refine ent Tryz.func130 rfl Tryz.ntmps130 rfl rfl fun a E=>sq<|bx E H rfl fun x w a H E=>xp 1 E rfl fun a E=>ln 0 (bE c) E H U97 rfl hU fun a E=>have H:=H.frs [0,3,3,3] rfl;bd hm fun y o hm=>xc2 E rfl (cf_ 202) (qZ H o)<|?_
 rintro _ w ⟨z,rfl,H⟩ a E
 refine pr 1 E rfl fun a E=>xp 1 E rfl fun a E=>sv2 E rfl (Hb E Hw Hx rfl rfl rfl) fun a E=>nt<|wif E hm rfl (fun hm=>?_) fun hm=>?_
 ·refine wp_region_lit<|pr 2 E rfl fun a E=>bd hm fun A b hm=>?_
  obtain ⟨B,C,e⟩:=H.rowformNE (i:=1) rfl b
  rw [Bs 5 e b] at E
  refine pr 2 E rfl fun a E=>sv2 E rfl (mW (d:=aB) (i:=1) (k:=2) E H bX e rfl rfl rfl b rfl U2 rfl) fun a E=>pr 3 E rfl fun a E=>ss 0 E H rfl sz2 rfl fun w H=>wpList_nil<|vC E rfl<|have H:=H.drop 3;?_
  cases hm
  exact ⟨_,rfl,H.reads Y0⟩
 ·refine wp_skip<|vC E rfl<|have H:=H.drop 3;?_
  cases hm
  exact ⟨_,rfl,H.reads Y0⟩

end Go.Cb
