/- A shard that decides, plainly: of several words of one transaction the first is told to all. -/
import Derived.Test.YtpbgbliikifjjaaGreatDoorD0se
import Derived.Test.YtpbgbliikifjjaaGreatDoorKse4
set_option linter.unusedVariables false
set_option linter.unusedSimpArgs false
namespace Go.Cb
open Go.Proofs Go.RowKit

/-- a CmdDecide. -/
abbrev Cw (txn e:Int) (y:Bool):bA:=⟨4,0,txn,0,y,[],(ByteArray.mk #[]),e,0,(⟨[],[]⟩:bB),[],(⟨0,0,(ByteArray.mk #[]),false⟩:aK)⟩
theorem Ty(txn e:Int)(y:Bool)(h1:0 ≤ txn)(h2:txn ≤ 281474976710656)(h3:0 ≤ e)(h4:e ≤ 281474976710656):qQ (Cw txn e y)=some true:=by
  unfold qQ gE
  rw [if_neg (by simp)]
  unfold gD
  rw [if_neg (by simp),if_pos (by rfl),if_pos (by rfl),if_pos (by rfl),if_pos (by rfl)]
  unfold gW
  rw [if_pos (by rfl),Kv _ (by simp)]
  simp only [Option.bind_some]
  rw [if_pos (show ([0,txn,0,e,0,0]:List Int).all Cv=true by rw [List.all_eq_true];intro n hn;simp only [List.mem_cons,List.not_mem_nil,or_false] at hn;rcases hn with rfl | rfl | rfl | rfl | rfl | rfl <;> first | exact Kw h1 h2 | exact Kw h3 h4 | rfl),Pn]
  simp only [Option.bind_some,if_pos]
  unfold jG
  rw [if_pos rfl,if_pos (by rfl),Gh]
  simp only [Option.bind_some,if_pos]
  rw [if_pos (by rfl)]
  rfl
abbrev F9 (e:Int) (y:Bool):aG:=⟨0,0,y,e,[],(⟨[],[]⟩:bB),[],[],[]⟩
theorem Gj(txn e:Int)(y:Bool)(h1:0 ≤ txn)(h2:txn ≤ 281474976710656):fF [] (Cw txn e y)=some (F9 e y,[(txn,F9 e y)]):=by
  unfold fF A2 mlk
  rw [if_pos (Gi h1 h2)]
  simp only [Option.map_some,Option.bind_some,dY]
  unfold jU mpt
  rw [if_pos (by rfl),if_neg (by decide),if_pos ⟨Gi h1 h2,by simp [maxLen]⟩]
  simp only [Option.bind_some,lO]
  unfold gY Ay mlk
  rw [if_pos (Gi h1 h2)]
  simp [dY]
theorem Gv(txn e e0:Int)(y y0:Bool)(h1:0 ≤ txn)(h2:txn ≤ 281474976710656):fF [(txn,F9 e0 y0)] (Cw txn e y)=some (F9 e0 y0,[(txn,F9 e0 y0)]):=by
  unfold fF A2 mlk
  rw [if_pos (Gi h1 h2)]
  simp only [Option.map_some,Option.bind_some,dY,if_pos]
  unfold jU
  rw [if_neg (by simp)]
  unfold gY Ay mlk
  rw [if_pos (Gi h1 h2)]
  simp [dY]
theorem doD(a b c d f g x y z)(txn e:Int)(yes:Bool)(h1:0 ≤ txn)(h2:txn ≤ 281474976710656)(h3:0 ≤ e)(h4:e ≤ 281474976710656) :
    eO a b c d f g x y z (Cw txn e yes)=(fF z (Cw txn e yes)).bind fun u=>some (u.1,a,b,c,d,f,g,x,y,u.2):=by
  unfold eO
  rw [Ty txn e yes h1 h2 h3 h4]
  simp only [Option.bind_some]
  rw [if_neg (by simp)]
  unfold mW
  rw [if_neg (by simp),if_neg (by simp)]
  unfold mV
  rw [if_neg (by simp),if_neg (by simp)]
  unfold mU
  rw [if_neg (by simp),if_neg (by simp),if_neg (by simp),if_pos (by rfl)]
/-- what stands first. -/
def B8(l:List Int):Int:=match l with
  | []=>0
  | x::_=>x
theorem Nl{x:Int}(h:InI .u8 x):IntKind.i64.wrap x=x∧0 ≤ x∧x ≤ 281474976710656:=by
  have:0 ≤ x∧x ≤ 255:=by
    unfold InI at h
    have a:IntKind.u8.min=0:=by decide
    have b:IntKind.u8.max=255:=by decide
    omega
  exact ⟨Tu (by omega) (by omega),by omega,by omega⟩
theorem Kx(txn:Int)(ys:List Bool)(es:List Int)(h1:0 ≤ txn)(h2:txn ≤ 281474976710656)(hl:ys.length ≤ 60)(he:InL (fun x=>InI .u8 x) es):∀ (k i:Nat),i ≤ ys.length→ys.length+1 ≤ i+k→∀ (z:List (Int×aG)),(i=0→z= [])→(0 < i→∃ y0,ys[0]? =some y0∧z= [(txn,F9 (B8 es) y0)])→
    cN ys txn es true k (i:Int) S3 [] Eo [] [] [] [] [] z=some true
  | 0,i,_,h=>by omega
  | k+1,i,h0,h=>by
    intro z hz hz'
    unfold cN
    by_cases hi:i < ys.length
    · rw [if_pos (by simpa using hi)]
      have key:∀ e:Int,0 ≤ e→e ≤ 281474976710656→(i=0→e=B8 es)→fD (cN ys txn es true k) (i:Int) ys S3 [] Eo [] [] [] [] [] z txn es e=some true:=by
        intro e e1 e2 e3
        unfold fD
        rw [Jk hi]
        simp only [Option.bind_some]
        rw [doD _ _ _ _ _ _ _ _ _ txn e ys[i] h1 h2 e1 e2]
        have ⟨y0,hy0⟩:∃ y0,ys[0]? =some y0:=⟨_,List.getElem?_eq_getElem (by omega)⟩
        have hd:fF z (Cw txn e ys[i])=some (F9 (B8 es) y0,[(txn,F9 (B8 es) y0)]):=by
          rcases Nat.eq_zero_or_pos i with h5 | h5
          · subst h5
            rw [hz rfl,Gj txn e _ h1 h2,e3 rfl]
            have:y0=ys[0]:=by rw [List.getElem?_eq_getElem (by omega)] at hy0;exact (Option.some.inj hy0).symm
            rw [this]
          · obtain ⟨y1,g1,g2⟩:=hz' h5
            rw [hy0] at g1
            cases g1
            rw [g2]
            exact Gv txn e _ _ _ h1 h2
        rw [hd]
        simp only [Option.bind_some]
        have key3:∀ x:Int,x=B8 es→fC (cN ys txn es true k) (i:Int) (F9 (B8 es) y0,S3,[],Eo,[],[],[],[],[],[(txn,F9 (B8 es) y0)]) ys x=some true:=by
          rintro x rfl
          unfold fC
          rw [if_neg (by simp),show idx ys 0=some y0 by rw [show (0:Int)=((0:Nat):Int) from rfl,Jk (by omega)];rw [List.getElem?_eq_getElem (by omega)] at hy0;exact hy0]
          simp only [Option.bind_some]
          rw [if_neg (by simp)]
          unfold fB
          rw [if_neg (by simp),Tv (by omega)]
          exact Kx txn ys es h1 h2 hl he k (i+1) (by omega) (by omega) _ (by omega) (fun _=>⟨y0,hy0,rfl⟩)
        cases es with
        | nil=>rw [if_neg (by simp)];exact key3 0 rfl
        | cons x es=>
          rw [if_pos (by simp),show idx (x::es) 0=some x from rfl]
          simp only [Option.bind_some]
          rw [(Nl (he.2 x (by simp))).1]
          exact key3 x rfl
      by_cases hj:i < es.length
      · rw [if_pos (by simpa using hj),Jk hj]
        simp only [Option.bind_some]
        have w:=Nl (he.2 es[i] (List.getElem_mem hj))
        rw [w.1]
        refine key _ w.2.1 w.2.2 fun h5=>?_
        subst h5
        cases es with
        | nil=>simp at hj
        | cons x es=>rfl
      · rw [if_neg (by simpa using hj)]
        refine key 0 (by omega) (by omega) fun h5=>?_
        subst h5
        cases es with
        | nil=>rfl
        | cons x es=>simp at hj
    · rw [if_neg (by simpa using hi),if_pos rfl,Tx]
      rfl
theorem Dt(txn:Int)(ys:List Bool)(es:List Int)(he:InL (fun x=>InI .u8 x) es):iC txn ys es=some true:=by
  unfold iC
  rw [Mh,Tw]
  simp only [Option.bind_some,W5]
  by_cases h0:(ys.length:Int) > 60
  · rw [if_pos (by simpa using h0)];rfl
  · rw [if_neg (by simpa using h0)]
    by_cases h1:txn < 0
    · rw [if_pos (by simpa using h1)];rfl
    · rw [if_neg (by simpa using h1)]
      unfold fE
      by_cases h2:txn > 281474976710656
      · rw [if_pos (by simpa using h2)]
      · rw [if_neg (by simpa using h2)]
        exact Kx txn ys es (by omega) (by omega) (by omega) he _ 0 (by omega) (by omega) [] (fun _=>rfl) (by omega)
end Go.Cb
