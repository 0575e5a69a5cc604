/- Plain laws of elder seats, at this one. -/
import Derived.Test.YtpbgbliikifjjaaGreatDoorU2sl
import Derived.Test.YtpbgbliikifjjaaGreatDoorAsl2
import Derived.Test.YtpbgbliikifjjaaGreatDoorKsl4
import Derived.Test.YtpbgbliikifjjaaGreatDoorKsl2
set_option linter.unusedVariables false
set_option linter.unusedSimpArgs false
namespace Go.Cb
open Go.Proofs Go.RowKit

theorem Mf(a b:Sto)(h:a.Turns.length=b.Turns.length)(hl:a.Turns.length ≤ 1000000):∀ (k i:Nat),i ≤ a.Turns.length→a.Turns.length+1 ≤ i+k→iT a b k (i:Int)=some (decide (a.Turns.drop i=b.Turns.drop i))
  | 0,i,_,h=>by omega
  | k+1,i,h0,hk=>by
    unfold iT
    by_cases hi:i < a.Turns.length
    · have hi':i < b.Turns.length:=by omega
      rw [if_pos (by simpa using hi),dV hi,dV hi',List.drop_eq_getElem_cons hi,List.drop_eq_getElem_cons hi']
      simp only [Option.bind_some]
      have e:((sEq (a.Turns[i]).Dir (b.Turns[i]).Dir) && ((a.Turns[i]).Next == (b.Turns[i]).Next))=decide (a.Turns[i]=b.Turns[i]):=by
        rw [Bool.eq_iff_iff]
        simp only [Bool.and_eq_true,Ha,beq_iff_eq,decide_eq_true_eq]
        constructor
        · rintro ⟨h1,h2⟩
          cases hx:a.Turns[i];cases hy:b.Turns[i]
          simp only [hx,hy] at h1 h2
          rw [h1,h2]
        · intro h;rw [h];exact ⟨rfl,rfl⟩
      rw [e]
      by_cases c:a.Turns[i]=b.Turns[i]
      · rw [decide_eq_true c,if_neg (by simp),oV (by omega),Mf a b h hl k (i+1) (by omega) (by omega)]
        exact congrArg some (decide_eq_decide.2 ⟨fun h=>by rw [c,h],fun h=>(List.cons.inj h).2⟩)
      · rw [decide_eq_false c,if_pos (by rfl)]
        exact congrArg some (decide_eq_false fun h=>c (List.cons.inj h).1).symm
    · rw [if_neg (by simpa using hi),List.drop_eq_nil_of_le (by omega),List.drop_eq_nil_of_le (by omega)]
      rfl
theorem Wk(a b:Sto)(hn:a.Nodes.length ≤ 1000000)(hl:a.Turns.length ≤ 1000000):qR a b=some (decide (a=b)):=by
  unfold qR nX
  rw [AD _ _ hn]
  simp only [Option.bind_some]
  have ext:a=b ↔ a.Nodes=b.Nodes∧a.Turns=b.Turns:=by
    constructor
    · rintro rfl;exact ⟨rfl,rfl⟩
    · cases a;cases b;rintro ⟨h1,h2⟩;simp only at h1 h2;rw [h1,h2]
  by_cases h1:a.Nodes=b.Nodes
  · rw [decide_eq_true h1,if_neg (by simp)]
    by_cases h2:a.Turns.length=b.Turns.length
    · rw [if_neg (by simp;omega),show iT a b (((a.Turns.length:Int) - 0:Int).toNat+1) 0=some (decide (a.Turns.drop 0=b.Turns.drop 0)) from Mf a b h2 hl _ 0 (by omega) (by omega)]
      congr 1
      exact decide_eq_decide.2 ((show a.Turns.drop 0=b.Turns.drop 0 ↔ a.Turns=b.Turns by simp).trans ⟨fun h=>ext.2 ⟨h1,h⟩,fun h=>(ext.1 h).2⟩)
    · rw [if_pos (by simp;omega),decide_eq_false (fun h=>h2 (by rw [h]))]
  · rw [decide_eq_false h1,if_pos (by rfl),if_pos trivial,decide_eq_false (fun h=>h1 (by rw [h]))]
end Go.Cb
