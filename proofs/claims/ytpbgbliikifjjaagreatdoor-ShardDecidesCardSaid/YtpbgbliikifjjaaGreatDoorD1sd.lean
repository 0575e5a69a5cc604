/- A shard that decides, plainly: of several words of one transaction the first is told to all. -/
import Derived.Test.YtpbgbliikifjjaaGreatDoorHdsd
import Derived.Test.YtpbgbliikifjjaaGreatDoorKsd4
import Derived.Sort.Walk0
import Derived.ChangeKeysEq
set_option linter.unusedVariables false
set_option linter.unusedSimpArgs false
namespace Go.Cb
open Go.Proofs Go.RowKit

theorem Sq {n:Int} (h:-9223372036854775808 ≤ n) (h':n ≤ 9223372036854775807):IntKind.i64.wrap n=n:=IntWalk.i64_in n ⟨h,h'⟩
theorem Sr {i:Nat} (h:i ≤ 1000000000):IntKind.i64.wrap ((i:Int)+1)=((i+1:Nat):Int):=by rw [Sq (by omega) (by omega)];omega
theorem Ii {α:Type} {l:List α} {i:Nat} (h:i < l.length):idx l (i:Int)=some l[i]:=by simp [idx,h]
def Br (n:Int):Bool:=decide (0 ≤ n) && decide (n ≤ 281474976710656)
theorem Cf (l:List Int) (hl:l.length ≤ 1000000):∀ (k i:Nat),i ≤ l.length→l.length+1 ≤ i+k→gM l k (i:Int)=some ((l.drop i).all Br)
  | 0,i,_,h=>by omega
  | k+1,i,h0,h=>by
    unfold gM
    by_cases hi:i < l.length
    · rw [if_pos (by simpa using hi),Ii hi,List.drop_eq_getElem_cons hi]
      simp only [Option.bind_some,List.all_cons]
      have ih:=Cf l hl k (i+1) (by omega) (by omega)
      unfold Br at ih ⊢
      by_cases h1:l[i] < 0
      · rw [if_pos (by simpa using h1),decide_eq_false (show ¬ 0 ≤ l[i] by omega)]
        simp [kH]
      · rw [if_neg (by simpa using h1),decide_eq_true (show 0 ≤ l[i] by omega)]
        unfold kH
        by_cases h2:l[i] > 281474976710656
        · rw [if_pos (by simpa using h2),decide_eq_false (show ¬ l[i] ≤ 281474976710656 by omega)];simp
        · rw [if_neg (by simpa using h2),decide_eq_true (show l[i] ≤ 281474976710656 by omega),Sr (by omega),ih];simp
    · rw [if_neg (by simpa using hi),List.drop_eq_nil_of_le (by omega)];rfl
theorem Jr (l:List Int) (hl:l.length ≤ 1000000):pN l=some (l.all Br):=by
  unfold pN
  exact Cf l hl _ 0 (by omega) (by omega)
theorem Js {n:Int} (h:0 ≤ n) (h':n ≤ 281474976710656):Br n=true:=by simp [Br,h,h']
/-- a CmdDecide. -/
abbrev Bs (txn e:Int) (y:Bool):bA:=⟨4,0,txn,0,y,[],(ByteArray.mk #[]),e,0,(⟨[],[]⟩:bB),[],(⟨0,0,(ByteArray.mk #[]),false⟩:aK)⟩
theorem Fe:pM (⟨[],[]⟩:bB)=some true:=by kernel_rfl
theorem Oi:qP (ByteArray.mk #[])=some true:=by kernel_rfl
theorem Ss (txn e:Int) (y:Bool) (h1:0 ≤ txn) (h2:txn ≤ 281474976710656) (h3:0 ≤ e) (h4:e ≤ 281474976710656):qQ (Bs txn e y)=some true:=by
  unfold qQ gE
  rw [if_neg (by simp)]
  unfold gD
  rw [if_neg (by simp),if_pos (by rfl),if_pos (by rfl),if_pos (by rfl),if_pos (by rfl)]
  unfold gW
  rw [if_pos (by rfl),Jr _ (by simp)]
  simp only [Option.bind_some]
  rw [if_pos (show ([0,txn,0,e,0,0]:List Int).all Br=true by rw [List.all_eq_true];intro n hn;simp only [List.mem_cons,List.not_mem_nil,or_false] at hn;rcases hn with rfl | rfl | rfl | rfl | rfl | rfl <;> first | exact Js h1 h2 | exact Js h3 h4 | rfl),Oi]
  simp only [Option.bind_some,if_pos]
  unfold jG
  rw [if_pos rfl,if_pos (by rfl),Fe]
  simp only [Option.bind_some,if_pos]
  rw [if_pos (by rfl)]
  rfl
abbrev C9 (e:Int) (y:Bool):aG:=⟨0,0,y,e,[],(⟨[],[]⟩:bB),[],[],[]⟩
theorem Ff {n:Int} (h1:0 ≤ n) (h2:n ≤ 281474976710656):(kyI .i64).ok n=true:=by
  simp only [kyI,Lit.wf,Bool.and_eq_true,decide_eq_true_eq]
  have a:IntKind.i64.min= -9223372036854775808:=by decide
  have b:IntKind.i64.max=9223372036854775807:=by decide
  omega
theorem Fg (txn e:Int) (y:Bool) (h1:0 ≤ txn) (h2:txn ≤ 281474976710656):fF [] (Bs txn e y)=some (C9 e y,[(txn,C9 e y)]):=by
  unfold fF o8 mlk
  rw [if_pos (Ff h1 h2)]
  simp only [Option.map_some,Option.bind_some,dY]
  unfold jU mpt
  rw [if_pos (by rfl),if_neg (by decide),if_pos ⟨Ff h1 h2,by simp [maxLen]⟩]
  simp only [Option.bind_some,lO]
  unfold gY Z6 mlk
  rw [if_pos (Ff h1 h2)]
  simp [dY]
theorem Ft (txn e e0:Int) (y y0:Bool) (h1:0 ≤ txn) (h2:txn ≤ 281474976710656):fF [(txn,C9 e0 y0)] (Bs txn e y)=some (C9 e0 y0,[(txn,C9 e0 y0)]):=by
  unfold fF o8 mlk
  rw [if_pos (Ff h1 h2)]
  simp only [Option.map_some,Option.bind_some,dY,if_pos]
  unfold jU
  rw [if_neg (by simp)]
  unfold gY Z6 mlk
  rw [if_pos (Ff h1 h2)]
  simp [dY]
theorem doD (a b c d f g x y z) (txn e:Int) (yes:Bool) (h1:0 ≤ txn) (h2:txn ≤ 281474976710656) (h3:0 ≤ e) (h4:e ≤ 281474976710656) :
    eO a b c d f g x y z (Bs txn e yes)=(fF z (Bs txn e yes)).bind fun u=>some (u.1,a,b,c,d,f,g,x,y,u.2):=by
  unfold eO
  rw [Ss txn e yes h1 h2 h3 h4]
  simp only [Option.bind_some]
  rw [if_neg (by simp)]
  unfold mW
  rw [if_neg (by simp),if_neg (by simp)]
  unfold mV
  rw [if_neg (by simp),if_neg (by simp)]
  unfold mU
  rw [if_neg (by simp),if_neg (by simp),if_neg (by simp),if_pos (by rfl)]
abbrev P3:List aE:=[(⟨(ByteArray.mk #[47]),(ByteArray.mk #[]),0,0,0⟩:aE)]
abbrev Dm:List aH:=[(⟨(ByteArray.mk #[47]),1,1⟩:aH)]
set_option maxRecDepth 100000 in
theorem St:uX=some (some (P3,[],Dm)):=by kernel_rfl
theorem Su:kJ P3 []=some ⟨P3,[]⟩:=by
  unfold kJ
  simp [ck,LIM]
/-- what stands first. -/
def s0 (l:List Int):Int:=match l with
  | []=>0
  | x::_=>x
theorem Mj {x:Int} (h:InI .u8 x):IntKind.i64.wrap x=x∧0 ≤ x∧x ≤ 281474976710656:=by
  have:0 ≤ x∧x ≤ 255:=by
    unfold InI at h
    have a:IntKind.u8.min=0:=by decide
    have b:IntKind.u8.max=255:=by decide
    omega
  exact ⟨Sq (by omega) (by omega),by omega,by omega⟩
theorem Jt (txn:Int) (ys:List Bool) (es:List Int) (h1:0 ≤ txn) (h2:txn ≤ 281474976710656) (hl:ys.length ≤ 60) (he:InL (fun x=>InI .u8 x) es):∀ (k i:Nat),i ≤ ys.length→ys.length+1 ≤ i+k→∀ (z:List (Int×aG)),(i=0→z= [])→(0 < i→∃ y0,ys[0]? =some y0∧z= [(txn,C9 (s0 es) y0)])→
    cN ys txn es true k (i:Int) P3 [] Dm [] [] [] [] [] z=some true
  | 0,i,_,h=>by omega
  | k+1,i,h0,h=>by
    intro z hz hz'
    unfold cN
    by_cases hi:i < ys.length
    · rw [if_pos (by simpa using hi)]
      have key:∀ e:Int,0 ≤ e→e ≤ 281474976710656→(i=0→e=s0 es)→fD (cN ys txn es true k) (i:Int) ys P3 [] Dm [] [] [] [] [] z txn es e=some true:=by
        intro e e1 e2 e3
        unfold fD
        rw [Ii hi]
        simp only [Option.bind_some]
        rw [doD _ _ _ _ _ _ _ _ _ txn e ys[i] h1 h2 e1 e2]
        have ⟨y0,hy0⟩:∃ y0,ys[0]? =some y0:=⟨_,List.getElem?_eq_getElem (by omega)⟩
        have hd:fF z (Bs txn e ys[i])=some (C9 (s0 es) y0,[(txn,C9 (s0 es) y0)]):=by
          rcases Nat.eq_zero_or_pos i with h5 | h5
          · subst h5
            rw [hz rfl,Fg txn e _ h1 h2,e3 rfl]
            have:y0=ys[0]:=by rw [List.getElem?_eq_getElem (by omega)] at hy0;exact (Option.some.inj hy0).symm
            rw [this]
          · obtain ⟨y1,g1,g2⟩:=hz' h5
            rw [hy0] at g1
            cases g1
            rw [g2]
            exact Ft txn e _ _ _ h1 h2
        rw [hd]
        simp only [Option.bind_some]
        have key3:∀ x:Int,x=s0 es→fC (cN ys txn es true k) (i:Int) (C9 (s0 es) y0,P3,[],Dm,[],[],[],[],[],[(txn,C9 (s0 es) y0)]) ys x=some true:=by
          rintro x rfl
          unfold fC
          rw [if_neg (by simp),show idx ys 0=some y0 by rw [show (0:Int)=((0:Nat):Int) from rfl,Ii (by omega)];rw [List.getElem?_eq_getElem (by omega)] at hy0;exact hy0]
          simp only [Option.bind_some]
          rw [if_neg (by simp)]
          unfold fB
          rw [if_neg (by simp),Sr (by omega)]
          exact Jt txn ys es h1 h2 hl he k (i+1) (by omega) (by omega) _ (by omega) (fun _=>⟨y0,hy0,rfl⟩)
        cases es with
        | nil=>rw [if_neg (by simp)];exact key3 0 rfl
        | cons x es=>
          rw [if_pos (by simp),show idx (x::es) 0=some x from rfl]
          simp only [Option.bind_some]
          rw [(Mj (he.2 x (by simp))).1]
          exact key3 x rfl
      by_cases hj:i < es.length
      · rw [if_pos (by simpa using hj),Ii hj]
        simp only [Option.bind_some]
        have w:=Mj (he.2 es[i] (List.getElem_mem hj))
        rw [w.1]
        refine key _ w.2.1 w.2.2 fun h5=>?_
        subst h5
        cases es with
        | nil=>simp at hj
        | cons x es=>rfl
      · rw [if_neg (by simpa using hj)]
        refine key 0 (by omega) (by omega) fun h5=>?_
        subst h5
        cases es with
        | nil=>rfl
        | cons x es=>simp at hj
    · rw [if_neg (by simpa using hi),if_pos rfl,Su]
      rfl
theorem Cs (txn:Int) (ys:List Bool) (es:List Int) (he:InL (fun x=>InI .u8 x) es):iC txn ys es=some true:=by
  unfold iC
  rw [Lg,St]
  simp only [Option.bind_some,S9]
  by_cases h0:(ys.length:Int) > 60
  · rw [if_pos (by simpa using h0)];rfl
  · rw [if_neg (by simpa using h0)]
    by_cases h1:txn < 0
    · rw [if_pos (by simpa using h1)];rfl
    · rw [if_neg (by simpa using h1)]
      unfold fE
      by_cases h2:txn > 281474976710656
      · rw [if_pos (by simpa using h2)]
      · rw [if_neg (by simpa using h2)]
        exact Jt txn ys es (by omega) (by omega) (by omega) he _ 0 (by omega) (by omega) [] (fun _=>rfl) (by omega)
end Go.Cb
