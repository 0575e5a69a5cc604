/- A shard that keeps all, plainly: nobody holds; what runs comes to. -/
import Derived.Test.YteakhlfapjaodaaGreatDoorD3rsr
set_option linter.unusedVariables false
set_option linter.unusedSimpArgs false
namespace Go.Cb
open Go.Proofs Go.RowKit

/-! ### nobody holds -/
theorem Re(l:List ByteArray)(hl:l.length ≤ 1000000):∀ (k i:Nat),i ≤ l.length→l.length+1 ≤ i+k→dP l [] k (i:Int)=some (-1)
  | 0,i,_,h=>by omega
  | k+1,i,h0,h=>by
    unfold dP
    by_cases hi:i < l.length
    · rw [if_pos (by simpa using hi),cI hi]
      simp only [Option.bind_some]
      rw [show tX l[i] []=some false from rfl]
      simp only [Option.bind_some]
      rw [if_neg (by simp),lC (by omega),Re l hl k (i+1) (by omega) (by omega)]
    · rw [if_neg (by simpa using hi)]
theorem HE(l:List ByteArray)(hl:l.length ≤ 1000000):fF l []=some false:=by
  unfold fF jM
  rw [show dP l [] (((l.length:Int) - 0:Int).toNat+1) 0=some (-1) from Re l hl _ 0 (by omega) (by omega)]
  rfl
/-- what all of the pieces come to, as an answer and a store. -/
def T6(s:Sto)(l:List Pie):aW:=if (hZ s 0 s [] l).2.2.1 ≠ 0 then ⟨(hZ s 0 s [] l).2.2.1,(hZ s 0 s [] l).2.2.2,false,0,[],⟨[],[]⟩,[],[],[]⟩ else ⟨0,0,false,0,(hZ s 0 s [] l).2.1,⟨[],[]⟩,[],[],[]⟩
def A7(s:Sto)(l:List Pie):Sto:=if (hZ s 0 s [] l).2.2.1 ≠ 0 then s else (hZ s 0 s [] l).1
theorem Iv(s:Sto)(h1:s.Nodes.length ≤ 1000000)(h2:s.Turns.length ≤ 1000000):iG s.Nodes s.Turns=some s:=by
  unfold iG
  rw [dQ (by simp [LIM];omega),dQ (by simp [LIM];omega)]
end Go.Cb
