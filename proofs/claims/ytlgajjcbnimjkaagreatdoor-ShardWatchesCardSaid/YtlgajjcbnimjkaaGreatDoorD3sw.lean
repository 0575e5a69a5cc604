/- A shard that keeps all, plainly: where directories are, what is told, what pieces make. -/
import Derived.Test.YtlgajjcbnimjkaaGreatDoorD2sw
import Derived.Test.YtlgajjcbnimjkaaGreatDoorKsw2
import Derived.Test.YtlgajjcbnimjkaaGreatDoorKsw3
set_option linter.unusedVariables false
set_option linter.unusedSimpArgs false
namespace Go.Cb
open Go.Proofs Go.RowKit

/-! ### the root's range -/
theorem ML(s:ByteArray):iW s (ByteArray.mk #[])=some (s,true):=by
  unfold iW gX gW
  have e:((ByteArray.mk #[]).size:Int)=0:=rfl
  rw [e,if_pos (by simp),gL (by omega)]
  have e1:s.extract 0 (0:Int).toNat=ByteArray.mk #[]:=by apply zM;rw [uP];rfl
  have e2:s.extract (0:Int).toNat s.size=s:=by apply zM;rw [uP,iD];simp
  simp only [Option.bind_some]
  rw [e1,e2,if_neg (by rw [vV];simp),gL (by omega)]
  rfl
theorem Ng{s:ByteArray}(h:dQ (bl s)=true):∃ r,bl s=47::r:=by
  unfold dQ at h
  obtain ⟨ps,hp⟩:=Option.isSome_iff_exists.1 h
  rw [((mH _ ps).1 hp).1]
  unfold nG
  split
  · exact ⟨[],rfl⟩
  · cases ps with
    | nil=>exact absurd rfl (by assumption)
    | cons p ps=>exact ⟨_,rfl⟩
theorem Ok{s:ByteArray}(h:dQ (bl s)=true):zC s (ByteArray.mk #[47])=some true:=by
  unfold zC
  rw [vY,h]
  simp only [Option.bind_some]
  rw [if_neg (by simp),show eP (ByteArray.mk #[47])=some true by kernel_rfl]
  simp only [Option.bind_some]
  unfold zB
  rw [if_neg (by simp),show fQ (ByteArray.mk #[47]) (ByteArray.mk #[47])=some (ByteArray.mk #[]) by kernel_rfl]
  simp only [Option.bind_some]
  rw [ML]
  simp only [Option.bind_some]
  obtain ⟨r,hr⟩:=Ng h
  rw [if_pos trivial,if_neg (by rw [vV,hr];simp [bl]),show s.data.toList=bl s from rfl,hr]
  rfl
abbrev nH (e:Int):List aH:=[(⟨(ByteArray.mk #[47]),e,1⟩:aH)]
theorem Nh{e:Int}(h1:0 ≤ e)(h2:e ≤ 281474976710656):nD (nH e)=some true:=by
  unfold nD
  rw [show ((((nH e).length:Int) - 0:Int).toNat+1)=2 from rfl]
  unfold fP
  rw [if_pos (by rfl),show idx (nH e) 0=some (⟨(ByteArray.mk #[47]),e,1⟩:aH) from rfl]
  simp only [Option.bind_some]
  rw [show eP (ByteArray.mk #[47])=some true by kernel_rfl]
  simp only [Option.bind_some]
  rw [if_neg (by simp),if_neg (by simp;omega),if_neg (by simp;omega),if_neg (by simp),if_neg (by simp),if_neg (by simp)]
  unfold iP
  rw [if_neg (by simp),show IntKind.i64.wrap (0+1)=1 from rfl]
  unfold fP
  rw [if_neg (by simp)]
  rfl
theorem Qw{e:Int}(h1:0 ≤ e)(h2:e ≤ 281474976710656){s:ByteArray}(h:dQ (bl s)=true):xL (nH e) s=some 1:=by
  unfold xL qL
  rw [show ((((nH e).length:Int) - 0:Int).toNat+1)=2 from rfl]
  unfold lO
  rw [if_pos (by rfl),show idx (nH e) 0=some (⟨(ByteArray.mk #[47]),e,1⟩:aH) from rfl]
  simp only [Option.bind_some]
  rw [Ok h]
  simp only [Option.bind_some,if_true]
  rw [if_pos (by rfl)]
  unfold uA xH
  rw [if_pos rfl,show IntKind.i64.wrap (0+1)=1 from rfl]
  unfold lO
  rw [if_neg (by simp),Nh h1 h2]
  rfl
theorem Ew{e:Int}(h1:0 ≤ e)(h2:e ≤ 281474976710656)(l:List ByteArray)(x:Int)(hx:x ≠ 1)(hl:l.length ≤ 1000000)(hp:∀ d ∈ l,dQ (bl d)=true):∀ (k i:Nat),i ≤ l.length→l.length+1 ≤ i+k→dM l (nH e) x k (i:Int)=some (-1)
  | 0,i,_,h=>by omega
  | k+1,i,h0,h=>by
    unfold dM
    by_cases hi:i < l.length
    · rw [if_pos (by simpa using hi),eR hi]
      simp only [Option.bind_some]
      unfold pP
      rw [Qw h1 h2 (hp _ (List.getElem_mem hi))]
      simp only [Option.bind_some]
      rw [if_neg (by simp;omega),oA (by omega),Ew h1 h2 l x hx hl hp k (i+1) (by omega) (by omega)]
    · rw [if_neg (by simpa using hi)]
theorem Qx{e:Int}(h1:0 ≤ e)(h2:e ≤ 281474976710656)(l:List ByteArray)(hl:l.length ≤ 1000000)(hp:∀ d ∈ l,dQ (bl d)=true):mO (nH e) l=some 0:=by
  unfold mO nV hU iY
  have a:=Ew h1 h2 l 3 (by omega) hl hp (((l.length:Int) - 0:Int).toNat+1) 0 (by omega) (by omega)
  have b:=Ew h1 h2 l 2 (by omega) hl hp (((l.length:Int) - 0:Int).toNat+1) 0 (by omega) (by omega)
  rw [show dM l (nH e) 3 (((l.length:Int) - 0:Int).toNat+1) 0=some (-1) from a,show dM l (nH e) 2 (((l.length:Int) - 0:Int).toNat+1) 0=some (-1) from b]
  rfl
/-! ### nobody watches -/
def J8(r:Res):Prop:=r.Names.length ≤ 1000000∧∀ n ∈ r.Names,(bl n).length ≤ 12
/-! ### all of a list of pieces -/
theorem Tz(x:Nd):(bl (yQ x)).length ≤ 12:=by
  show (bl (mk (wX (bl x.Path)))).length ≤ 12
  rw [gV]
  exact Ma _
theorem Ua(s:Sto)(p:Pt1):∀ n ∈ (doP s p).2.Names,(bl n).length ≤ 12:=by
  have key:∀ (f:Nd→Bool) (n:ByteArray),n ∈ (s.Nodes.filter f).map yQ→(bl n).length ≤ 12:=fun f n hn=>by
    obtain ⟨x,_,rfl⟩:=List.mem_map.1 hn
    exact Tz x
  intro n hn
  unfold doP Mg at hn
  repeat' split at hn
  all_goals first | exact key _ n hn | exact absurd hn (by simp [res])
def eE(s0:Sto):Nat→Sto→List Res→List Pie→Sto×List Res×Int×Int
  | _,s,acc,[]=>(s,acc,0,0)
  | i,s,acc,p::l=>if (doP s p.Part).2.Err ≠ 0 then (s0,[],(doP s p.Part).2.Err,(i:Int)) else eE s0 (i+1) (doP s p.Part).1 (acc ++ [(doP s p.Part).2]) l
theorem Ub(s0:Sto)(l:List Pie)(hl:l.length ≤ 1000)(hm:∀ p ∈ l,rR p.Part=true):∀ (k i:Nat) (s:Sto) (acc:List Res),gM s→s.Nodes.length ≤ 50000+i→s.Turns.length ≤ 50000+i→i ≤ l.length→l.length+1 ≤ i+k→acc.length=i→(∀ x ∈ acc,J8 x)→
    sN l s0 k acc (i:Int) s.Nodes s.Turns=some (eE s0 i s acc (l.drop i))∧((eE s0 i s acc (l.drop i)).2.2.1=0→gM (eE s0 i s acc (l.drop i)).1∧(eE s0 i s acc (l.drop i)).1.Nodes.length ≤ 51000∧(eE s0 i s acc (l.drop i)).1.Turns.length ≤ 51000∧(eE s0 i s acc (l.drop i)).2.1.length=l.length∧∀ x ∈ (eE s0 i s acc (l.drop i)).2.1,J8 x)
  | 0,i,s,acc,_,_,_,_,h,_,_=>by omega
  | k+1,i,s,acc,S,hn,ht,h0,h,ha,hx=>by
    unfold sN
    by_cases hi:i < l.length
    · rw [if_pos (by simpa using hi),eR hi,List.drop_eq_getElem_cons hi]
      simp only [Option.bind_some]
      have m:=hm _ (List.getElem_mem hi)
      rw [show (⟨s.Nodes,s.Turns⟩:Sto)=s from rfl,Tx s _ (by omega) (by omega) S m]
      simp only [Option.bind_some]
      unfold eE
      by_cases e:(doP s (l[i]).Part).2.Err=0
      · obtain ⟨g1,g2,g3,g4⟩:=Ty s (l[i]).Part S m
        rw [if_neg (by simpa using e),if_neg (by simpa using e),gL (by simp [LIM];omega),oA (by omega)]
        exact Ub s0 l hl hm k (i+1) _ _ g1 (by omega) (by omega) (by omega) (by omega) (by simp [ha]) (fun x h'=>by
          rcases List.mem_append.1 h' with h' | h'
          · exact hx x h'
          · rw [List.mem_singleton.1 h'];exact ⟨by omega,Ua _ _⟩)
      · rw [if_pos (by simpa using e),if_pos e]
        exact ⟨rfl,fun h=>absurd h e⟩
    · rw [if_neg (by simpa using hi),List.drop_eq_nil_of_le (by omega)]
      unfold eE
      exact ⟨rfl,fun _=>⟨S,by simp only;omega,by simp only;omega,by simp only;omega,hx⟩⟩
theorem Dj(s:Sto)(l:List Pie)(S:gM s)(hn:s.Nodes.length ≤ 50000)(ht:s.Turns.length ≤ 50000)(hl:l.length ≤ 1000)(hm:∀ p ∈ l,rR p.Part=true) :
    xT s l=some (eE s 0 s [] l)∧((eE s 0 s [] l).2.2.1=0→gM (eE s 0 s [] l).1∧(eE s 0 s [] l).1.Nodes.length ≤ 51000∧(eE s 0 s [] l).1.Turns.length ≤ 51000∧(eE s 0 s [] l).2.1.length=l.length∧∀ x ∈ (eE s 0 s [] l).2.1,J8 x):=by
  unfold xT
  exact Ub s l hl hm _ 0 s [] S (by omega) (by omega) (by omega) (by omega) rfl (by simp)
theorem Io:∀ (l:List Pie) (last:Int),w8 last l=true→∀ p ∈ l,rR p.Part=true∧p.Part.Version < 281474976710656
  | [],_,_,p,hp=>by simp at hp
  | x::l,last,h,p,hp=>by
    unfold w8 at h
    simp only [Bool.and_eq_true,decide_eq_true_eq] at h
    rcases List.mem_cons.1 hp with rfl | hp
    · exact ⟨h.2.2.1,h.2.2.2.1⟩
    · exact Io l _ h.2.2.2.2 p hp
theorem Ip{id txn age:Int}{l:List Pie}(h:J3 id txn age l=true):(∀ p ∈ l,rR p.Part=true)∧l.length ≤ 16∧vU id=true∧vU txn=true∧vU age=true:=by
  unfold J3 at h
  simp only [Bool.and_eq_true,decide_eq_true_eq] at h
  exact ⟨fun p hp=>(Io l 0 h.1 p hp).1,h.2.1,h.2.2.1,h.2.2.2.1,h.2.2.2.2⟩
theorem AH{l:List Pie}(h:∀ p ∈ l,rR p.Part=true):∀ d ∈ qM (uJ (l.map fun p=>p.Part.Dir)),dQ (bl d)=true:=by
  intro d hd
  obtain ⟨p,hp,rfl⟩:=List.mem_map.1 (Wm hd)
  have m:=h p hp
  rw [(L8 m).2.1]
  have q:=N8 m
  unfold E8
  split
  · exact q
  · unfold upP
    cases hq:jB (bl p.Part.Path) with
    | none=>rfl
    | some q'=>
      obtain ⟨ps,t,h1,h2,h3,_⟩:=J7 hq
      unfold dQ
      rw [show (some q').getD [47]=q' from rfl,h3]
      rfl
end Go.Cb
