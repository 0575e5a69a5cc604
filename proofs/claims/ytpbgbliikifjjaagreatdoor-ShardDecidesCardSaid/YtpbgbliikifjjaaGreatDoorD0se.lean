/- A shard, plainly: numbers, keys, what is empty, the root. -/
import Derived.Test.YtpbgbliikifjjaaGreatDoorHdse
import Derived.Test.YtpbgbliikifjjaaGreatDoorKse4
import Derived.Test.YtpbgbliikifjjaaGreatDoorKse1
import Derived.Sort.Walk0
import Derived.ChangeKeysEq
set_option linter.unusedVariables false
set_option linter.unusedSimpArgs false
namespace Go.Cb
open Go.Proofs Go.RowKit

theorem Tu{n:Int}(h:-9223372036854775808 ≤ n)(h':n ≤ 9223372036854775807):IntKind.i64.wrap n=n:=IntWalk.i64_in n ⟨h,h'⟩
theorem Tv{i:Nat}(h:i ≤ 1000000000):IntKind.i64.wrap ((i:Int)+1)=((i+1:Nat):Int):=by rw [Tu (by omega) (by omega)];omega
theorem Jk{α:Type}{l:List α}{i:Nat}(h:i < l.length):idx l (i:Int)=some l[i]:=by simp [idx,h]
def Cv(n:Int):Bool:=decide (0 ≤ n) && decide (n ≤ 281474976710656)
theorem Dh(l:List Int)(hl:l.length ≤ 1000000):∀ (k i:Nat),i ≤ l.length→l.length+1 ≤ i+k→gM l k (i:Int)=some ((l.drop i).all Cv)
  | 0,i,_,h=>by omega
  | k+1,i,h0,h=>by
    unfold gM
    by_cases hi:i < l.length
    · rw [if_pos (by simpa using hi),Jk hi,List.drop_eq_getElem_cons hi]
      simp only [Option.bind_some,List.all_cons]
      have ih:=Dh l hl k (i+1) (by omega) (by omega)
      unfold Cv at ih ⊢
      by_cases h1:l[i] < 0
      · rw [if_pos (by simpa using h1),decide_eq_false (show ¬ 0 ≤ l[i] by omega)]
        simp [kH]
      · rw [if_neg (by simpa using h1),decide_eq_true (show 0 ≤ l[i] by omega)]
        unfold kH
        by_cases h2:l[i] > 281474976710656
        · rw [if_pos (by simpa using h2),decide_eq_false (show ¬ l[i] ≤ 281474976710656 by omega)];simp
        · rw [if_neg (by simpa using h2),decide_eq_true (show l[i] ≤ 281474976710656 by omega),Tv (by omega),ih];simp
    · rw [if_neg (by simpa using hi),List.drop_eq_nil_of_le (by omega)];rfl
theorem Kv(l:List Int)(hl:l.length ≤ 1000000):pN l=some (l.all Cv):=by
  unfold pN
  exact Dh l hl _ 0 (by omega) (by omega)
theorem Kw{n:Int}(h:0 ≤ n)(h':n ≤ 281474976710656):Cv n=true:=by simp [Cv,h,h']
theorem Gh:pM (⟨[],[]⟩:bB)=some true:=by kernel_rfl
theorem Pn:qP (ByteArray.mk #[])=some true:=by kernel_rfl
theorem Gi{n:Int}(h1:0 ≤ n)(h2:n ≤ 281474976710656):(kyI .i64).ok n=true:=by
  simp only [kyI,Lit.wf,Bool.and_eq_true,decide_eq_true_eq]
  have a:IntKind.i64.min= -9223372036854775808:=by decide
  have b:IntKind.i64.max=9223372036854775807:=by decide
  omega
abbrev S3:List aE:=[(⟨(ByteArray.mk #[47]),(ByteArray.mk #[]),0,0,0⟩:aE)]
abbrev Eo:List aH:=[(⟨(ByteArray.mk #[47]),1,1⟩:aH)]
set_option maxRecDepth 100000 in
theorem Tw:uX=some (some (S3,[],Eo)):=by kernel_rfl
theorem Tx:kJ S3 []=some ⟨S3,[]⟩:=by
  unfold kJ
  simp [ck,LIM]
end Go.Cb
