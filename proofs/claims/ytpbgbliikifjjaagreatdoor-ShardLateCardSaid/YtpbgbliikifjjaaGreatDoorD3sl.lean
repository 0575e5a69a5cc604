/- A shard that keeps all, plainly: where directories are, what is told, what pieces make. -/
import Derived.Test.YtpbgbliikifjjaaGreatDoorD2sl
import Derived.Test.YtpbgbliikifjjaaGreatDoorKsl2
import Derived.Test.YtpbgbliikifjjaaGreatDoorKsl3
set_option linter.unusedVariables false
set_option linter.unusedSimpArgs false
namespace Go.Cb
open Go.Proofs Go.RowKit

/-! ### the root's range -/
theorem MF(s:ByteArray):iM s (ByteArray.mk #[])=some (s,true):=by
  unfold iM gI gH
  have e:((ByteArray.mk #[]).size:Int)=0:=rfl
  rw [e,if_pos (by simp),fZ (by omega)]
  have e1:s.extract 0 (0:Int).toNat=ByteArray.mk #[]:=by apply zE;rw [uH];rfl
  have e2:s.extract (0:Int).toNat s.size=s:=by apply zE;rw [uH,hF];simp
  simp only [Option.bind_some]
  rw [e1,e2,if_neg (by rw [vP];simp),fZ (by omega)]
  rfl
theorem Mz{s:ByteArray}(h:fB (bl s)=true):∃ r,bl s=47::r:=by
  unfold fB at h
  obtain ⟨ps,hp⟩:=Option.isSome_iff_exists.1 h
  rw [((mG _ ps).1 hp).1]
  unfold nZ
  split
  · exact ⟨[],rfl⟩
  · cases ps with
    | nil=>exact absurd rfl (by assumption)
    | cons p ps=>exact ⟨_,rfl⟩
theorem AJ{s:ByteArray}(h:fB (bl s)=true):yU s (ByteArray.mk #[47])=some true:=by
  unfold yU
  rw [zF,h]
  simp only [Option.bind_some]
  rw [if_neg (by simp),show eG (ByteArray.mk #[47])=some true by kernel_rfl]
  simp only [Option.bind_some]
  unfold yT
  rw [if_neg (by simp),show fD (ByteArray.mk #[47]) (ByteArray.mk #[47])=some (ByteArray.mk #[]) by kernel_rfl]
  simp only [Option.bind_some]
  rw [MF]
  simp only [Option.bind_some]
  obtain ⟨r,hr⟩:=Mz h
  rw [if_pos trivial,if_neg (by rw [vP,hr];simp [bl]),dl,hr]
  rfl
abbrev wR (e:Int):List aG:=[(⟨(ByteArray.mk #[47]),e,1⟩:aG)]
theorem Na{e:Int}(h1:0 ≤ e)(h2:e ≤ 281474976710656):nE (wR e)=some true:=by
  unfold nE
  rw [show ((((wR e).length:Int) - 0:Int).toNat+1)=2 from rfl]
  unfold eZ
  rw [if_pos (by rfl),show idx (wR e) 0=some (⟨(ByteArray.mk #[47]),e,1⟩:aG) from rfl]
  simp only [Option.bind_some]
  rw [show eG (ByteArray.mk #[47])=some true by kernel_rfl]
  simp only [Option.bind_some]
  rw [if_neg (by simp),if_neg (by simp;omega),if_neg (by simp;omega),if_neg (by simp),if_neg (by simp),if_neg (by simp)]
  unfold iG
  rw [if_neg (by simp),show IntKind.i64.wrap (0+1)=1 from rfl]
  unfold eZ
  rw [if_neg (by simp)]
  rfl
theorem Rb{e:Int}(h1:0 ≤ e)(h2:e ≤ 281474976710656){s:ByteArray}(h:fB (bl s)=true):xE (wR e) s=some 1:=by
  unfold xE qD
  rw [show ((((wR e).length:Int) - 0:Int).toNat+1)=2 from rfl]
  unfold lO
  rw [if_pos (by rfl),show idx (wR e) 0=some (⟨(ByteArray.mk #[47]),e,1⟩:aG) from rfl]
  simp only [Option.bind_some]
  rw [AJ h]
  simp only [Option.bind_some,if_true]
  rw [if_pos (by rfl)]
  unfold tS xA
  rw [if_pos rfl,show IntKind.i64.wrap (0+1)=1 from rfl]
  unfold lO
  rw [if_neg (by simp),Na h1 h2]
  rfl
theorem Eg{e:Int}(h1:0 ≤ e)(h2:e ≤ 281474976710656)(l:List ByteArray)(x:Int)(hx:x ≠ 1)(hl:l.length ≤ 1000000)(hp:∀ d ∈ l,fB (bl d)=true):∀ (k i:Nat),i ≤ l.length→l.length+1 ≤ i+k→dI l (wR e) x k (i:Int)=some (-1)
  | 0,i,_,h=>by omega
  | k+1,i,h0,h=>by
    unfold dI
    by_cases hi:i < l.length
    · rw [if_pos (by simpa using hi),dV hi]
      simp only [Option.bind_some]
      unfold pF
      rw [Rb h1 h2 (hp _ (List.getElem_mem hi))]
      simp only [Option.bind_some]
      rw [if_neg (by simp;omega),oV (by omega),Eg h1 h2 l x hx hl hp k (i+1) (by omega) (by omega)]
    · rw [if_neg (by simpa using hi)]
theorem Rc{e:Int}(h1:0 ≤ e)(h2:e ≤ 281474976710656)(l:List ByteArray)(hl:l.length ≤ 1000000)(hp:∀ d ∈ l,fB (bl d)=true):mN (wR e) l=some 0:=by
  unfold mN nV gS iO
  have a:=Eg h1 h2 l 3 (by omega) hl hp (((l.length:Int) - 0:Int).toNat+1) 0 (by omega) (by omega)
  have b:=Eg h1 h2 l 2 (by omega) hl hp (((l.length:Int) - 0:Int).toNat+1) 0 (by omega) (by omega)
  rw [show dI l (wR e) 3 (((l.length:Int) - 0:Int).toNat+1) 0=some (-1) from a,show dI l (wR e) 2 (((l.length:Int) - 0:Int).toNat+1) 0=some (-1) from b]
  rfl
/-! ### nobody watches -/
theorem Of(k:Int)(s:ByteArray):iE [] [] k s=some ([],[]):=by
  unfold iE A2
  rw [show rI (⟨[],[]⟩:bK)=some true by kernel_rfl]
  simp only [Option.bind_some]
  have j:∀ b,∃ r,kQ (⟨[],[]⟩:bK) s k b=some r∧(r.2=0→r.1= ⟨[],[]⟩):=by
    intro b
    unfold kQ
    cases b with
    | true=>rw [if_pos rfl];exact ⟨_,rfl,fun h=>by cases h⟩
    | false=>
      rw [if_neg (by simp),fZ (by simp [LIM]),fZ (by simp [LIM])]
      exact ⟨(⟨[],[]⟩,0),rfl,fun _=>rfl⟩
  have fin:∀ b,((kQ (⟨[],[]⟩:bK) s k b).bind fun u31=>if (u31.2 == 0)=true then (some (u31.1.Watches,u31.1.Sessions)) else (some (([]:List aK),([]:List aD))))=some ([],[]):=by
    intro b
    obtain ⟨r,h1,h2⟩:=j b
    rw [h1]
    simp only [Option.bind_some]
    by_cases c:r.2=0
    · rw [if_pos (by simpa using c),h2 c]
    · rw [if_neg (by simpa using c)]
  rw [if_neg (by simp)]
  split
  · exact fin true
  · split
    · exact fin true
    · rw [zF]
      simp only [Option.bind_some]
      exact fin _
theorem Og(rec_1:Int→List aK→List aD→Option (List aK×List aD))(x:Int)(r:Res)(p:Pie)(hr:r.Names.length ≤ 1000000)(hn:∀ n ∈ r.Names,(bl n).length ≤ 100000000):∀ (k i:Nat),i ≤ r.Names.length→r.Names.length+1 ≤ i+k→iS rec_1 x r p k (i:Int) [] []=rec_1 (IntKind.i64.wrap (x+1)) [] []
  | 0,i,_,h=>by omega
  | k+1,i,h0,h=>by
    unfold iS fM
    by_cases hi:i < r.Names.length
    · rw [if_pos (by simpa using hi),dV hi]
      simp only [Option.bind_some]
      rw [Hf _ _ (hn _ (List.getElem_mem hi))]
      simp only [Option.bind_some]
      rw [Of]
      simp only [Option.bind_some]
      rw [oV (by omega),Og rec_1 x r p hr hn k (i+1) (by omega) (by omega)]
    · rw [if_neg (by simpa using hi)]
def S3(r:Res):Prop:=r.Names.length ≤ 1000000∧∀ n ∈ r.Names,(bl n).length ≤ 12
theorem Oh(l:List Pie)(r:List Res)(hl:l.length ≤ 1000000)(hr:r.length=l.length)(hn:∀ x ∈ r,S3 x):∀ (k i:Nat),i ≤ l.length→l.length+1 ≤ i+k→eB l r k (i:Int) [] []=some ([],[])
  | 0,i,_,h=>by omega
  | k+1,i,h0,h=>by
    unfold eB
    by_cases hi:i < l.length
    · rw [if_pos (by simpa using hi),dV hi]
      simp only [Option.bind_some]
      have hi':i < r.length:=by omega
      have ih:=Oh l r hl hr hn k (i+1) (by omega) (by omega)
      rw [dV hi']
      simp only [Option.bind_some,Of]
      unfold fM
      rw [oV (by omega),ih]
      have nk:=hn _ (List.getElem_mem hi')
      rw [show iS (eB l r k) (i:Int) r[i] l[i] ((((r[i]).Names.length:Int) - 0:Int).toNat+1) 0 [] []=_ from Og _ (i:Int) r[i] l[i] nk.1 (fun n h=>by have:=nk.2 n h;omega) _ 0 (by omega) (by omega),oV (by omega),ih]
      repeat' split
      all_goals rfl
    · rw [if_neg (by simpa using hi)]
theorem KF(l:List Pie)(r:List Res)(hl:l.length ≤ 1000000)(hr:r.length=l.length)(hn:∀ x ∈ r,S3 x):qN [] [] l r=some ([],[]):=by
  unfold qN
  exact Oh l r hl hr hn _ 0 (by omega) (by omega)
/-! ### all of a list of pieces -/
theorem Ud(x:Nd):(bl (s6 x)).length ≤ 12:=by
  show (bl (mk (wP (bl x.Path)))).length ≤ 12
  rw [iF]
  exact Ly _
theorem Ue(s:Sto)(p:Pt1):∀ n ∈ (doP s p).2.Names,(bl n).length ≤ 12:=by
  have key:∀ (f:Nd→Bool) (n:ByteArray),n ∈ (s.Nodes.filter f).map s6→(bl n).length ≤ 12:=fun f n hn=>by
    obtain ⟨x,_,rfl⟩:=List.mem_map.1 hn
    exact Ud x
  intro n hn
  unfold doP Qw at hn
  repeat' split at hn
  all_goals first | exact key _ n hn | exact absurd hn (by simp [res])
def nC(s0:Sto):Nat→Sto→List Res→List Pie→Sto×List Res×Int×Int
  | _,s,acc,[]=>(s,acc,0,0)
  | i,s,acc,p::l=>if (doP s p.Part).2.Err ≠ 0 then (s0,[],(doP s p.Part).2.Err,(i:Int)) else nC s0 (i+1) (doP s p.Part).1 (acc ++ [(doP s p.Part).2]) l
theorem Uf(s0:Sto)(l:List Pie)(hl:l.length ≤ 1000)(hm:∀ p ∈ l,tM p.Part=true):∀ (k i:Nat) (s:Sto) (acc:List Res),jX s→s.Nodes.length ≤ 50000+i→s.Turns.length ≤ 50000+i→i ≤ l.length→l.length+1 ≤ i+k→acc.length=i→(∀ x ∈ acc,S3 x)→
    sH l s0 k acc (i:Int) s.Nodes s.Turns=some (nC s0 i s acc (l.drop i))∧((nC s0 i s acc (l.drop i)).2.2.1=0→jX (nC s0 i s acc (l.drop i)).1∧(nC s0 i s acc (l.drop i)).1.Nodes.length ≤ 51000∧(nC s0 i s acc (l.drop i)).1.Turns.length ≤ 51000∧(nC s0 i s acc (l.drop i)).2.1.length=l.length∧∀ x ∈ (nC s0 i s acc (l.drop i)).2.1,S3 x)
  | 0,i,s,acc,_,_,_,_,h,_,_=>by omega
  | k+1,i,s,acc,S,hn,ht,h0,h,ha,hx=>by
    unfold sH
    by_cases hi:i < l.length
    · rw [if_pos (by simpa using hi),dV hi,List.drop_eq_getElem_cons hi]
      simp only [Option.bind_some]
      have m:=hm _ (List.getElem_mem hi)
      rw [show (⟨s.Nodes,s.Turns⟩:Sto)=s from rfl,Ua s _ (by omega) (by omega) S m]
      simp only [Option.bind_some]
      unfold nC
      by_cases e:(doP s (l[i]).Part).2.Err=0
      · obtain ⟨g1,g2,g3,g4⟩:=FE s (l[i]).Part S m
        rw [if_neg (by simpa using e),if_neg (by simpa using e),fZ (by simp [LIM];omega),oV (by omega)]
        exact Uf s0 l hl hm k (i+1) _ _ g1 (by omega) (by omega) (by omega) (by omega) (by simp [ha]) (fun x h'=>by
          rcases List.mem_append.1 h' with h' | h'
          · exact hx x h'
          · rw [List.mem_singleton.1 h'];exact ⟨by omega,Ue _ _⟩)
      · rw [if_pos (by simpa using e),if_pos e]
        exact ⟨rfl,fun h=>absurd h e⟩
    · rw [if_neg (by simpa using hi),List.drop_eq_nil_of_le (by omega)]
      unfold nC
      exact ⟨rfl,fun _=>⟨S,by simp only;omega,by simp only;omega,by simp only;omega,hx⟩⟩
theorem O9(s:Sto)(l:List Pie)(S:jX s)(hn:s.Nodes.length ≤ 50000)(ht:s.Turns.length ≤ 50000)(hl:l.length ≤ 1000)(hm:∀ p ∈ l,tM p.Part=true) :
    xL s l=some (nC s 0 s [] l)∧((nC s 0 s [] l).2.2.1=0→jX (nC s 0 s [] l).1∧(nC s 0 s [] l).1.Nodes.length ≤ 51000∧(nC s 0 s [] l).1.Turns.length ≤ 51000∧(nC s 0 s [] l).2.1.length=l.length∧∀ x ∈ (nC s 0 s [] l).2.1,S3 x):=by
  unfold xL
  exact Uf s l hl hm _ 0 s [] S (by omega) (by omega) (by omega) (by omega) rfl (by simp)
theorem Ij:∀ (l:List Pie) (last:Int),s7 last l=true→∀ p ∈ l,tM p.Part=true∧p.Part.Version < 281474976710656
  | [],_,_,p,hp=>by simp at hp
  | x::l,last,h,p,hp=>by
    unfold s7 at h
    simp only [Bool.and_eq_true,decide_eq_true_eq] at h
    rcases List.mem_cons.1 hp with rfl | hp
    · exact ⟨h.2.2.1,h.2.2.2.1⟩
    · exact Ij l _ h.2.2.2.2 p hp
theorem Ax{id txn age:Int}{l:List Pie}(h:a8 id txn age l=true):(∀ p ∈ l,tM p.Part=true)∧l.length ≤ 16∧sW id=true∧sW txn=true∧sW age=true:=by
  unfold a8 at h
  simp only [Bool.and_eq_true,decide_eq_true_eq] at h
  exact ⟨fun p hp=>(Ij l 0 h.1 p hp).1,h.2.1,h.2.2.1,h.2.2.2.1,h.2.2.2.2⟩
theorem Oi{l:List Pie}(h:∀ p ∈ l,tM p.Part=true):∀ d ∈ oY (tB (l.map fun p=>p.Part.Dir)),fB (bl d)=true:=by
  intro d hd
  obtain ⟨p,hp,rfl⟩:=List.mem_map.1 (Wl hd)
  have m:=h p hp
  rw [(K5 m).2.1]
  have q:=Ih m
  unfold E1
  split
  · exact q
  · unfold upP
    cases hq:iV (bl p.Part.Path) with
    | none=>rfl
    | some q'=>
      obtain ⟨ps,t,h1,h2,h3,_⟩:=R9 hq
      unfold fB
      rw [show (some q').getD [47]=q' from rfl,h3]
      rfl
/-- all of the pieces, at a shard that nobody watches. -/
theorem MG(s:Sto)(l:List Pie)(S:jX s)(hn:s.Nodes.length ≤ 50000)(ht:s.Turns.length ≤ 50000)(hl:l.length ≤ 1000)(hm:∀ p ∈ l,tM p.Part=true) :
    oS s.Nodes s.Turns [] [] l=some (if (nC s 0 s [] l).2.2.1 ≠ 0 then ((⟨(nC s 0 s [] l).2.2.1,(nC s 0 s [] l).2.2.2,false,0,[],⟨[],[]⟩,[],[],[]⟩:aH),s.Nodes,s.Turns,[],[]) else ((⟨0,0,false,0,(nC s 0 s [] l).2.1,⟨[],[]⟩,[],[],[]⟩:aH),(nC s 0 s [] l).1.Nodes,(nC s 0 s [] l).1.Turns,[],[])):=by
  unfold oS
  obtain ⟨h1,h2⟩:=O9 s l S hn ht hl hm
  rw [show (⟨s.Nodes,s.Turns⟩:Sto)=s from rfl,h1]
  simp only [Option.bind_some]
  by_cases e:(nC s 0 s [] l).2.2.1=0
  · obtain ⟨_,_,_,g4,g5⟩:=h2 e
    rw [if_neg (by simpa using e),if_neg (by simpa using e),KF _ _ (by omega) g4 g5]
    rfl
  · rw [if_pos (by simpa using e),if_pos e]
end Go.Cb
