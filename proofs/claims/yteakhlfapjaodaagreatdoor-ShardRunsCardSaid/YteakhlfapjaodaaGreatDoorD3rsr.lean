/- A shard that keeps all, plainly: where directories are, what is told, what pieces make. -/
import Derived.Test.YteakhlfapjaodaaGreatDoorD2rsr
import Derived.Test.YteakhlfapjaodaaGreatDoorKsr2
import Derived.Test.YteakhlfapjaodaaGreatDoorKsr3
set_option linter.unusedVariables false
set_option linter.unusedSimpArgs false
namespace Go.Cb
open Go.Proofs Go.RowKit

/-! ### the root's range -/
theorem HX(s:ByteArray):iE s (ByteArray.mk #[])=some (s,true):=by
  unfold iE gF gE
  have e:((ByteArray.mk #[]).size:Int)=0:=rfl
  rw [e,if_pos (by simp),dQ (by omega)]
  have e1:s.extract 0 (0:Int).toNat=ByteArray.mk #[]:=by apply wM;rw [tS];rfl
  have e2:s.extract (0:Int).toNat s.size=s:=by apply wM;rw [tS,cW];simp
  simp only [Option.bind_some]
  rw [e1,e2,if_neg (by rw [pC];simp),dQ (by omega)]
  rfl
theorem Pz{s:ByteArray}(h:jD (bl s)=true):∃ r,bl s=47::r:=by
  unfold jD at h
  obtain ⟨ps,hp⟩:=Option.isSome_iff_exists.1 h
  rw [((kC _ ps).1 hp).1]
  unfold mZ
  split
  · exact ⟨[],rfl⟩
  · cases ps with
    | nil=>exact absurd rfl (by assumption)
    | cons p ps=>exact ⟨_,rfl⟩
theorem BG{s:ByteArray}(h:jD (bl s)=true):zO s (ByteArray.mk #[47])=some true:=by
  unfold zO
  rw [D6,h]
  simp only [Option.bind_some]
  rw [if_neg (by simp),show dX (ByteArray.mk #[47])=some true by kernel_rfl]
  simp only [Option.bind_some]
  unfold zN
  rw [if_neg (by simp),show eS (ByteArray.mk #[47]) (ByteArray.mk #[47])=some (ByteArray.mk #[]) by kernel_rfl]
  simp only [Option.bind_some]
  rw [HX]
  simp only [Option.bind_some]
  obtain ⟨r,hr⟩:=Pz h
  rw [if_pos trivial,if_neg (by rw [pC,hr];simp [bl]),show s.data.toList=bl s from rfl,hr]
  rfl
abbrev vB (e:Int):List aI:=[(⟨(ByteArray.mk #[47]),e,1⟩:aI)]
theorem Fd{e:Int}(h1:0 ≤ e)(h2:e ≤ 281474976710656):qE (vB e)=some true:=by
  unfold qE
  rw [show ((((vB e).length:Int) - 0:Int).toNat+1)=2 from rfl]
  unfold eQ
  rw [if_pos (by rfl),show idx (vB e) 0=some (⟨(ByteArray.mk #[47]),e,1⟩:aI) from rfl]
  simp only [Option.bind_some]
  rw [show dX (ByteArray.mk #[47])=some true by kernel_rfl]
  simp only [Option.bind_some]
  rw [if_neg (by simp),if_neg (by simp;omega),if_neg (by simp;omega),if_neg (by simp),if_neg (by simp),if_neg (by simp)]
  unfold hX
  rw [if_neg (by simp),show IntKind.i64.wrap (0+1)=1 from rfl]
  unfold eQ
  rw [if_neg (by simp)]
  rfl
theorem Su{e:Int}(h1:0 ≤ e)(h2:e ≤ 281474976710656){s:ByteArray}(h:jD (bl s)=true):xX (vB e) s=some 1:=by
  unfold xX uX
  rw [show ((((vB e).length:Int) - 0:Int).toNat+1)=2 from rfl]
  unfold mF
  rw [if_pos (by rfl),show idx (vB e) 0=some (⟨(ByteArray.mk #[47]),e,1⟩:aI) from rfl]
  simp only [Option.bind_some]
  rw [BG h]
  simp only [Option.bind_some,if_true]
  rw [if_pos (by rfl)]
  unfold uM xV
  rw [if_pos rfl,show IntKind.i64.wrap (0+1)=1 from rfl]
  unfold mF
  rw [if_neg (by simp),Fd h1 h2]
  rfl
theorem Gt{e:Int}(h1:0 ≤ e)(h2:e ≤ 281474976710656)(l:List ByteArray)(x:Int)(hx:x ≠ 1)(hl:l.length ≤ 1000000)(hp:∀ d ∈ l,jD (bl d)=true):∀ (k i:Nat),i ≤ l.length→l.length+1 ≤ i+k→cQ l (vB e) x k (i:Int)=some (-1)
  | 0,i,_,h=>by omega
  | k+1,i,h0,h=>by
    unfold cQ
    by_cases hi:i < l.length
    · rw [if_pos (by simpa using hi),cI hi]
      simp only [Option.bind_some]
      unfold qN
      rw [Su h1 h2 (hp _ (List.getElem_mem hi))]
      simp only [Option.bind_some]
      rw [if_neg (by simp;omega),lC (by omega),Gt h1 h2 l x hx hl hp k (i+1) (by omega) (by omega)]
    · rw [if_neg (by simpa using hi)]
theorem Sv{e:Int}(h1:0 ≤ e)(h2:e ≤ 281474976710656)(l:List ByteArray)(hl:l.length ≤ 1000000)(hp:∀ d ∈ l,jD (bl d)=true):nF (vB e) l=some 0:=by
  unfold nF oU gM iI
  have a:=Gt h1 h2 l 3 (by omega) hl hp (((l.length:Int) - 0:Int).toNat+1) 0 (by omega) (by omega)
  have b:=Gt h1 h2 l 2 (by omega) hl hp (((l.length:Int) - 0:Int).toNat+1) 0 (by omega) (by omega)
  rw [show cQ l (vB e) 3 (((l.length:Int) - 0:Int).toNat+1) 0=some (-1) from a,show cQ l (vB e) 2 (((l.length:Int) - 0:Int).toNat+1) 0=some (-1) from b]
  rfl
/-! ### nobody watches -/
theorem Rb(k:Int)(s:ByteArray):hC [] [] k s=some ([],[]):=by
  unfold hC D2
  rw [show x9 (⟨[],[]⟩:eE)=some true by kernel_rfl]
  simp only [Option.bind_some]
  have j:∀ b,∃ r,kT (⟨[],[]⟩:eE) s k b=some r∧(r.2=0→r.1= ⟨[],[]⟩):=by
    intro b
    unfold kT
    cases b with
    | true=>rw [if_pos rfl];exact ⟨_,rfl,fun h=>by cases h⟩
    | false=>
      rw [if_neg (by simp),dQ (by simp [LIM]),dQ (by simp [LIM])]
      exact ⟨(⟨[],[]⟩,0),rfl,fun _=>rfl⟩
  have fin:∀ b,((kT (⟨[],[]⟩:eE) s k b).bind fun u31=>if (u31.2 == 0)=true then (some (u31.1.Watches,u31.1.Sessions)) else (some (([]:List aP),([]:List aH))))=some ([],[]):=by
    intro b
    obtain ⟨r,h1,h2⟩:=j b
    rw [h1]
    simp only [Option.bind_some]
    by_cases c:r.2=0
    · rw [if_pos (by simpa using c),h2 c]
    · rw [if_neg (by simpa using c)]
  rw [if_neg (by simp)]
  split
  · exact fin true
  · split
    · exact fin true
    · rw [D6]
      simp only [Option.bind_some]
      exact fin _
theorem Rc(rec_1:Int→List aP→List aH→Option (List aP×List aH))(x:Int)(r:Res)(p:Pie)(hr:r.Names.length ≤ 1000000)(hn:∀ n ∈ r.Names,(bl n).length ≤ 100000000):∀ (k i:Nat),i ≤ r.Names.length→r.Names.length+1 ≤ i+k→iO rec_1 x r p k (i:Int) [] []=rec_1 (IntKind.i64.wrap (x+1)) [] []
  | 0,i,_,h=>by omega
  | k+1,i,h0,h=>by
    unfold iO fE
    by_cases hi:i < r.Names.length
    · rw [if_pos (by simpa using hi),cI hi]
      simp only [Option.bind_some]
      rw [Jx _ _ (hn _ (List.getElem_mem hi))]
      simp only [Option.bind_some]
      rw [Rb]
      simp only [Option.bind_some]
      rw [lC (by omega),Rc rec_1 x r p hr hn k (i+1) (by omega) (by omega)]
    · rw [if_neg (by simpa using hi)]
def Y9(r:Res):Prop:=r.Names.length ≤ 1000000∧∀ n ∈ r.Names,(bl n).length ≤ 12
theorem Rd(l:List Pie)(r:List Res)(hl:l.length ≤ 1000000)(hr:r.length=l.length)(hn:∀ x ∈ r,Y9 x):∀ (k i:Nat),i ≤ l.length→l.length+1 ≤ i+k→dJ l r k (i:Int) [] []=some ([],[])
  | 0,i,_,h=>by omega
  | k+1,i,h0,h=>by
    unfold dJ
    by_cases hi:i < l.length
    · rw [if_pos (by simpa using hi),cI hi]
      simp only [Option.bind_some]
      have hi':i < r.length:=by omega
      have ih:=Rd l r hl hr hn k (i+1) (by omega) (by omega)
      rw [cI hi']
      simp only [Option.bind_some,Rb]
      unfold fE
      rw [lC (by omega),ih]
      have nk:=hn _ (List.getElem_mem hi')
      rw [show iO (dJ l r k) (i:Int) r[i] l[i] ((((r[i]).Names.length:Int) - 0:Int).toNat+1) 0 [] []=_ from Rc _ (i:Int) r[i] l[i] nk.1 (fun n h=>by have:=nk.2 n h;omega) _ 0 (by omega) (by omega),lC (by omega),ih]
      repeat' split
      all_goals rfl
    · rw [if_neg (by simpa using hi)]
theorem HD(l:List Pie)(r:List Res)(hl:l.length ≤ 1000000)(hr:r.length=l.length)(hn:∀ x ∈ r,Y9 x):rW [] [] l r=some ([],[]):=by
  unfold rW
  exact Rd l r hl hr hn _ 0 (by omega) (by omega)
/-! ### all of a list of pieces -/
theorem Vt(x:Nd):(bl (vX x)).length ≤ 12:=by
  show (bl (mk (tB (bl x.Path)))).length ≤ 12
  rw [eG]
  exact Gq _
theorem Vu(s:Sto)(p:Pt1):∀ n ∈ (doP s p).2.Names,(bl n).length ≤ 12:=by
  have key:∀ (f:Nd→Bool) (n:ByteArray),n ∈ (s.Nodes.filter f).map vX→(bl n).length ≤ 12:=fun f n hn=>by
    obtain ⟨x,_,rfl⟩:=List.mem_map.1 hn
    exact Vt x
  intro n hn
  unfold doP Kc at hn
  repeat' split at hn
  all_goals first | exact key _ n hn | exact absurd hn (by simp [res])
def hZ(s0:Sto):Nat→Sto→List Res→List Pie→Sto×List Res×Int×Int
  | _,s,acc,[]=>(s,acc,0,0)
  | i,s,acc,p::l=>if (doP s p.Part).2.Err ≠ 0 then (s0,[],(doP s p.Part).2.Err,(i:Int)) else hZ s0 (i+1) (doP s p.Part).1 (acc ++ [(doP s p.Part).2]) l
theorem Vv(s0:Sto)(l:List Pie)(hl:l.length ≤ 1000)(hm:∀ p ∈ l,pZ p.Part=true):∀ (k i:Nat) (s:Sto) (acc:List Res),eV s→s.Nodes.length ≤ 50000+i→s.Turns.length ≤ 50000+i→i ≤ l.length→l.length+1 ≤ i+k→acc.length=i→(∀ x ∈ acc,Y9 x)→
    oS l s0 k acc (i:Int) s.Nodes s.Turns=some (hZ s0 i s acc (l.drop i))∧((hZ s0 i s acc (l.drop i)).2.2.1=0→eV (hZ s0 i s acc (l.drop i)).1∧(hZ s0 i s acc (l.drop i)).1.Nodes.length ≤ 51000∧(hZ s0 i s acc (l.drop i)).1.Turns.length ≤ 51000∧(hZ s0 i s acc (l.drop i)).2.1.length=l.length∧∀ x ∈ (hZ s0 i s acc (l.drop i)).2.1,Y9 x)
  | 0,i,s,acc,_,_,_,_,h,_,_=>by omega
  | k+1,i,s,acc,S,hn,ht,h0,h,ha,hx=>by
    unfold oS
    by_cases hi:i < l.length
    · rw [if_pos (by simpa using hi),cI hi,List.drop_eq_getElem_cons hi]
      simp only [Option.bind_some]
      have m:=hm _ (List.getElem_mem hi)
      rw [show (⟨s.Nodes,s.Turns⟩:Sto)=s from rfl,La s _ (by omega) (by omega) S m]
      simp only [Option.bind_some]
      unfold hZ
      by_cases e:(doP s (l[i]).Part).2.Err=0
      · obtain ⟨g1,g2,g3,g4⟩:=Vq s (l[i]).Part S m
        rw [if_neg (by simpa using e),if_neg (by simpa using e),dQ (by simp [LIM];omega),lC (by omega)]
        exact Vv s0 l hl hm k (i+1) _ _ g1 (by omega) (by omega) (by omega) (by omega) (by simp [ha]) (fun x h'=>by
          rcases List.mem_append.1 h' with h' | h'
          · exact hx x h'
          · rw [List.mem_singleton.1 h'];exact ⟨by omega,Vu _ _⟩)
      · rw [if_pos (by simpa using e),if_pos e]
        exact ⟨rfl,fun h=>absurd h e⟩
    · rw [if_neg (by simpa using hi),List.drop_eq_nil_of_le (by omega)]
      unfold hZ
      exact ⟨rfl,fun _=>⟨S,by simp only;omega,by simp only;omega,by simp only;omega,hx⟩⟩
theorem Fe(s:Sto)(l:List Pie)(S:eV s)(hn:s.Nodes.length ≤ 50000)(ht:s.Turns.length ≤ 50000)(hl:l.length ≤ 1000)(hm:∀ p ∈ l,pZ p.Part=true) :
    vJ s l=some (hZ s 0 s [] l)∧((hZ s 0 s [] l).2.2.1=0→eV (hZ s 0 s [] l).1∧(hZ s 0 s [] l).1.Nodes.length ≤ 51000∧(hZ s 0 s [] l).1.Turns.length ≤ 51000∧(hZ s 0 s [] l).2.1.length=l.length∧∀ x ∈ (hZ s 0 s [] l).2.1,Y9 x):=by
  unfold vJ
  exact Vv s l hl hm _ 0 s [] S (by omega) (by omega) (by omega) (by omega) rfl (by simp)
theorem Le:∀ (l:List Pie) (last:Int),P8 last l=true→∀ p ∈ l,pZ p.Part=true∧p.Part.Version < 281474976710656
  | [],_,_,p,hp=>by simp at hp
  | x::l,last,h,p,hp=>by
    unfold P8 at h
    simp only [Bool.and_eq_true,decide_eq_true_eq] at h
    rcases List.mem_cons.1 hp with rfl | hp
    · exact ⟨h.2.2.1,h.2.2.2.1⟩
    · exact Le l _ h.2.2.2.2 p hp
theorem Lf{id txn age:Int}{l:List Pie}(h:P9 id txn age l=true):(∀ p ∈ l,pZ p.Part=true)∧l.length ≤ 16∧yR id=true∧yR txn=true∧yR age=true:=by
  unfold P9 at h
  simp only [Bool.and_eq_true,decide_eq_true_eq] at h
  exact ⟨fun p hp=>(Le l 0 h.1 p hp).1,h.2.1,h.2.2.1,h.2.2.2.1,h.2.2.2.2⟩
theorem BH{l:List Pie}(h:∀ p ∈ l,pZ p.Part=true):∀ d ∈ rF (uP (l.map fun p=>p.Part.Dir)),jD (bl d)=true:=by
  intro d hd
  obtain ⟨p,hp,rfl⟩:=List.mem_map.1 (Xs hd)
  have m:=h p hp
  rw [(F9 m).2.1]
  have q:=Kz m
  unfold xM
  split
  · exact q
  · unfold upP
    cases hq:gT (bl p.Part.Path) with
    | none=>rfl
    | some q'=>
      obtain ⟨ps,t,h1,h2,h3,_⟩:=W9 hq
      unfold jD
      rw [show (some q').getD [47]=q' from rfl,h3]
      rfl
/-- all of the pieces, at a shard that nobody watches. -/
theorem HY(s:Sto)(l:List Pie)(S:eV s)(hn:s.Nodes.length ≤ 50000)(ht:s.Turns.length ≤ 50000)(hl:l.length ≤ 1000)(hm:∀ p ∈ l,pZ p.Part=true) :
    qB s.Nodes s.Turns [] [] l=some (if (hZ s 0 s [] l).2.2.1 ≠ 0 then ((⟨(hZ s 0 s [] l).2.2.1,(hZ s 0 s [] l).2.2.2,false,0,[],⟨[],[]⟩,[],[],[]⟩:aW),s.Nodes,s.Turns,[],[]) else ((⟨0,0,false,0,(hZ s 0 s [] l).2.1,⟨[],[]⟩,[],[],[]⟩:aW),(hZ s 0 s [] l).1.Nodes,(hZ s 0 s [] l).1.Turns,[],[])):=by
  unfold qB
  obtain ⟨h1,h2⟩:=Fe s l S hn ht hl hm
  rw [show (⟨s.Nodes,s.Turns⟩:Sto)=s from rfl,h1]
  simp only [Option.bind_some]
  by_cases e:(hZ s 0 s [] l).2.2.1=0
  · obtain ⟨_,_,_,g4,g5⟩:=h2 e
    rw [if_neg (by simpa using e),if_neg (by simpa using e),HD _ _ (by omega) g4 g5]
    rfl
  · rw [if_pos (by simpa using e),if_pos e]
end Go.Cb
