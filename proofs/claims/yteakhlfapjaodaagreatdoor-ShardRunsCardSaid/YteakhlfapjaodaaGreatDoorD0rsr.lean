/- A shard, plainly: numbers, keys, what is empty, the root. -/
import Derived.Test.YteakhlfapjaodaaGreatDoorHdrsr
import Derived.Test.YteakhlfapjaodaaGreatDoorKsr3
import Derived.Test.YteakhlfapjaodaaGreatDoorKsr1
import Derived.Sort.Walk0
import Derived.ChangeKeysEq
set_option linter.unusedVariables false
set_option linter.unusedSimpArgs false
namespace Go.Cb
open Go.Proofs Go.RowKit

theorem HQ{n:Int}(h:-9223372036854775808 ≤ n)(h':n ≤ 9223372036854775807):IntKind.i64.wrap n=n:=IntWalk.i64_in n ⟨h,h'⟩
theorem HR{i:Nat}(h:i ≤ 1000000000):IntKind.i64.wrap ((i:Int)+1)=((i+1:Nat):Int):=by rw [HQ (by omega) (by omega)];omega
theorem HS{α:Type}{l:List α}{i:Nat}(h:i < l.length):idx l (i:Int)=some l[i]:=by simp [idx,h]
def yR(n:Int):Bool:=decide (0 ≤ n) && decide (n ≤ 281474976710656)
theorem Kt(l:List Int)(hl:l.length ≤ 1000000):∀ (k i:Nat),i ≤ l.length→l.length+1 ≤ i+k→iF l k (i:Int)=some ((l.drop i).all yR)
  | 0,i,_,h=>by omega
  | k+1,i,h0,h=>by
    unfold iF
    by_cases hi:i < l.length
    · rw [if_pos (by simpa using hi),HS hi,List.drop_eq_getElem_cons hi]
      simp only [Option.bind_some,List.all_cons]
      have ih:=Kt l hl k (i+1) (by omega) (by omega)
      unfold yR at ih ⊢
      by_cases h1:l[i] < 0
      · rw [if_pos (by simpa using h1),decide_eq_false (show ¬ 0 ≤ l[i] by omega)]
        simp [nA]
      · rw [if_neg (by simpa using h1),decide_eq_true (show 0 ≤ l[i] by omega)]
        unfold nA
        by_cases h2:l[i] > 281474976710656
        · rw [if_pos (by simpa using h2),decide_eq_false (show ¬ l[i] ≤ 281474976710656 by omega)];simp
        · rw [if_neg (by simpa using h2),decide_eq_true (show l[i] ≤ 281474976710656 by omega),HR (by omega),ih];simp
    · rw [if_neg (by simpa using hi),List.drop_eq_nil_of_le (by omega)];rfl
theorem Um(l:List Int)(hl:l.length ≤ 1000000):tJ l=some (l.all yR):=by
  unfold tJ
  exact Kt l hl _ 0 (by omega) (by omega)
theorem Od:pP (⟨[],[]⟩:aF)=some true:=by kernel_rfl
theorem AK:uR (ByteArray.mk #[])=some true:=by kernel_rfl
theorem HT{n:Int}(h1:0 ≤ n)(h2:n ≤ 281474976710656):(kyI .i64).ok n=true:=by
  simp only [kyI,Lit.wf,Bool.and_eq_true,decide_eq_true_eq]
  have a:IntKind.i64.min= -9223372036854775808:=by decide
  have b:IntKind.i64.max=9223372036854775807:=by decide
  omega
end Go.Cb
