/- Plain laws of elder seats, at this one. -/
import Derived.Test.YtpbgbliikifjjaaGreatDoorQAsl
import Derived.Test.YtpbgbliikifjjaaGreatDoorAsl2
import Derived.Test.YtpbgbliikifjjaaGreatDoorKsl4
set_option linter.unusedVariables false
set_option linter.unusedSimpArgs false
namespace Go.Cb
open Go.Proofs Go.RowKit

theorem KE(x y:Nd):((sEq x.Path y.Path) && ((sEq x.Data y.Data) && ((x.Version == y.Version) && ((x.Turn == y.Turn) && (x.Owner == y.Owner)))))=decide (x=y):=by
  rw [Bool.eq_iff_iff]
  cases x;cases y
  simp [Ha]
theorem Nv(a b:List Nd)(h:a.length=b.length)(hl:a.length ≤ 1000000):∀ (k i:Nat),i ≤ a.length→a.length+1 ≤ i+k→kY a b k (i:Int)=some (decide (a.drop i=b.drop i))
  | 0,i,_,h=>by omega
  | k+1,i,h0,hk=>by
    unfold kY
    by_cases hi:i < a.length
    · have hi':i < b.length:=by omega
      rw [if_pos (by simpa using hi),dV hi]
      simp only [Option.bind_some]
      rw [dV hi']
      simp only [Option.bind_some]
      rw [KE,List.drop_eq_getElem_cons hi,List.drop_eq_getElem_cons hi']
      by_cases e:a[i]=b[i]
      · rw [if_neg (by simp [e]),show IntKind.i64.wrap ((i:Int)+1)=((i+1:Nat):Int) from by rw [w64 (by omega) (by omega)];omega,Nv a b h hl k (i+1) (by omega) (by omega),e]
        congr 1
        exact decide_eq_decide.2 ⟨fun h=>by rw [h],fun h=>(List.cons.inj h).2⟩
      · rw [if_pos (by simp [e]),decide_eq_false (fun h=>e (List.cons.inj h).1)]
    · rw [if_neg (by simpa using hi),List.drop_eq_nil_of_le (by omega),List.drop_eq_nil_of_le (by omega)]
      rfl
theorem AD(a b:List Nd)(hl:a.length ≤ 1000000):qQ a b=some (decide (a=b)):=by
  unfold qQ
  by_cases h:a.length=b.length
  · rw [if_neg (by simp;omega)]
    refine (Nv a b h hl (((a.length:Int) - 0:Int).toNat+1) 0 (by omega) (by omega)).trans ?_
    simp
  · rw [if_pos (by simp;omega)]
    congr 1
    exact (decide_eq_false fun e=>h (by rw [e])).symm
end Go.Cb
