/- A shard that keeps all, plainly: nobody holds; what runs comes to. -/
import Derived.Test.YtlgajjcbnimjkaaGreatDoorD3sw
set_option linter.unusedVariables false
set_option linter.unusedSimpArgs false
namespace Go.Cb
open Go.Proofs Go.RowKit

/-! ### nobody holds -/
theorem Oo(l:List ByteArray)(hl:l.length ≤ 1000000):∀ (k i:Nat),i ≤ l.length→l.length+1 ≤ i+k→eO l [] k (i:Int)=some (-1)
  | 0,i,_,h=>by omega
  | k+1,i,h0,h=>by
    unfold eO
    by_cases hi:i < l.length
    · rw [if_pos (by simpa using hi),eR hi]
      simp only [Option.bind_some]
      rw [show tL l[i] []=some false from rfl]
      simp only [Option.bind_some]
      rw [if_neg (by simp),oA (by omega),Oo l hl k (i+1) (by omega) (by omega)]
    · rw [if_neg (by simpa using hi)]
theorem JY(l:List ByteArray)(hl:l.length ≤ 1000000):gA l []=some false:=by
  unfold gA jS
  rw [show eO l [] (((l.length:Int) - 0:Int).toNat+1) 0=some (-1) from Oo l hl _ 0 (by omega) (by omega)]
  rfl
/-- what all of the pieces come to, as an answer and a store. -/
def B9(s:Sto)(l:List Pie):aE:=if (eE s 0 s [] l).2.2.1 ≠ 0 then ⟨(eE s 0 s [] l).2.2.1,(eE s 0 s [] l).2.2.2,false,0,[],⟨[],[]⟩,[],[],[]⟩ else ⟨0,0,false,0,(eE s 0 s [] l).2.1,⟨[],[]⟩,[],[],[]⟩
def wZ(s:Sto)(l:List Pie):Sto:=if (eE s 0 s [] l).2.2.1 ≠ 0 then s else (eE s 0 s [] l).1
end Go.Cb
