/- A shard, plainly: numbers, keys, what is empty, the root. -/
import Derived.Test.YtlgajjcbnimjkaaGreatDoorHdsw
import Derived.Test.YtlgajjcbnimjkaaGreatDoorKsw4
import Derived.Test.YtlgajjcbnimjkaaGreatDoorKsw1
import Derived.Sort.Walk0
import Derived.ChangeKeysEq
set_option linter.unusedVariables false
set_option linter.unusedSimpArgs false
namespace Go.Cb
open Go.Proofs Go.RowKit

theorem MH{n:Int}(h:-9223372036854775808 ≤ n)(h':n ≤ 9223372036854775807):IntKind.i64.wrap n=n:=IntWalk.i64_in n ⟨h,h'⟩
theorem MI{i:Nat}(h:i ≤ 1000000000):IntKind.i64.wrap ((i:Int)+1)=((i+1:Nat):Int):=by rw [MH (by omega) (by omega)];omega
theorem MJ{α:Type}{l:List α}{i:Nat}(h:i < l.length):idx l (i:Int)=some l[i]:=by simp [idx,h]
def vU(n:Int):Bool:=decide (0 ≤ n) && decide (n ≤ 281474976710656)
theorem Ig(l:List Int)(hl:l.length ≤ 1000000):∀ (k i:Nat),i ≤ l.length→l.length+1 ≤ i+k→iX l k (i:Int)=some ((l.drop i).all vU)
  | 0,i,_,h=>by omega
  | k+1,i,h0,h=>by
    unfold iX
    by_cases hi:i < l.length
    · rw [if_pos (by simpa using hi),MJ hi,List.drop_eq_getElem_cons hi]
      simp only [Option.bind_some,List.all_cons]
      have ih:=Ig l hl k (i+1) (by omega) (by omega)
      unfold vU at ih ⊢
      by_cases h1:l[i] < 0
      · rw [if_pos (by simpa using h1),decide_eq_false (show ¬ 0 ≤ l[i] by omega)]
        simp [mJ]
      · rw [if_neg (by simpa using h1),decide_eq_true (show 0 ≤ l[i] by omega)]
        unfold mJ
        by_cases h2:l[i] > 281474976710656
        · rw [if_pos (by simpa using h2),decide_eq_false (show ¬ l[i] ≤ 281474976710656 by omega)];simp
        · rw [if_neg (by simpa using h2),decide_eq_true (show l[i] ≤ 281474976710656 by omega),MI (by omega),ih];simp
    · rw [if_neg (by simpa using hi),List.drop_eq_nil_of_le (by omega)];rfl
theorem Ih(l:List Int)(hl:l.length ≤ 1000000):sZ l=some (l.all vU):=by
  unfold sZ
  exact Ig l hl _ 0 (by omega) (by omega)
theorem Sq{n:Int}(h:0 ≤ n)(h':n ≤ 281474976710656):vU n=true:=by simp [vU,h,h']
theorem Bb:mY (⟨[],[]⟩:aW)=some true:=by kernel_rfl
theorem Nw:uC (ByteArray.mk #[])=some true:=by kernel_rfl
theorem EW{n:Int}(h1:0 ≤ n)(h2:n ≤ 281474976710656):(kyI .i64).ok n=true:=by
  simp only [kyI,Lit.wf,Bool.and_eq_true,decide_eq_true_eq]
  have a:IntKind.i64.min= -9223372036854775808:=by decide
  have b:IntKind.i64.max=9223372036854775807:=by decide
  omega
abbrev V7:List aF:=[(⟨(ByteArray.mk #[47]),(ByteArray.mk #[]),0,0,0⟩:aF)]
abbrev Ql:List aH:=[(⟨(ByteArray.mk #[47]),1,1⟩:aH)]
set_option maxRecDepth 100000 in
theorem EX:zA=some (some (V7,[],Ql)):=by kernel_rfl
end Go.Cb
