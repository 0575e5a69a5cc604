/- Plain laws of elder seats, at this one. -/
import Derived.Test.YtlgajjcbnimjkaaGreatDoorQ5sw
import Derived.Test.YtlgajjcbnimjkaaGreatDoorKsw1
set_option linter.unusedVariables false
set_option linter.unusedSimpArgs false
namespace Go.Cb
open Go.Proofs Go.RowKit

theorem Tc(x m:Int):vG x m=some (decide (0 ≤ x∧x ≤ m)):=by
  unfold vG
  by_cases h:0 ≤ x
  · rw [if_pos (by simpa using h)];simp [h]
  · rw [if_neg (by simpa using h)];simp [h]
abbrev Op1:=dE
def dQ(p:List UInt8):Bool:=(parts p).isSome
def T3(k:Int)(root d v w t:Bool):Bool:=
  if k=1 then !root && !v else if k=2 then !root && !d && !w && !t else if k=3 then !w && !t else if k=4 then !d && !w && !t
  else if k=5∨k=6 then !v && !d && !w && !t else if k=7 then !v && !d && w && !t else false
def qA(o:Op1):Bool:=decide (1 ≤ o.Kind∧o.Kind ≤ 7) && dQ (bl o.Path) && decide ((bl o.Data).length ≤ 256) && decide (0 ≤ o.Owner∧o.Owner ≤ 1099511627776) && decide (-1 ≤ o.Version∧o.Version ≤ 281474976710656) &&
  T3 o.Kind (decide (bl o.Path= [47])) (!decide (bl o.Data= [])) (!decide (o.Version=0)) (!decide (o.Owner=0)) o.Turns
def Ly(d v w t r:Bool):Int:=
  let a:=if d then ior .i64 0 1 else 0
  let a:=if v then ior .i64 a 2 else a
  let a:=if w then ior .i64 a 4 else a
  let a:=if t then ior .i64 a 8 else a
  if r then ior .i64 a 16 else a
theorem FC:∀ (k:Fin 8) (d v w t r:Bool),k.val ≠ 0→((Q7 .i64 (Ly d v w t r) ([0,13,2,19,18,16,16,20][k.val]!) == 0) && (k.val != 7 || w))=T3 k.val r d v w t:=by decide +kernel
theorem Td(o:Op1):xO o=some (qA o):=by
  unfold xO nM
  have hd:=iD o.Data
  by_cases a1:o.Kind < 1
  · rw [if_pos (by simpa using a1),if_pos rfl]
    unfold qA;rw [show decide (1 ≤ o.Kind∧o.Kind ≤ 7)=false from by simp;omega];rfl
  rw [if_neg (by simpa using a1)]
  by_cases a2:o.Kind > 7
  · rw [if_pos (by simpa using a2),if_pos rfl]
    unfold qA;rw [show decide (1 ≤ o.Kind∧o.Kind ≤ 7)=false from by simp;omega];rfl
  rw [if_neg (by simpa using a2)]
  unfold eP
  rw [V9]
  simp only [Option.bind_some]
  have e3:(spl o.Path).2=dQ (bl o.Path):=by unfold spl dQ;cases parts (bl o.Path) <;> rfl
  rw [e3]
  cases a3:dQ (bl o.Path) with
  | false=>rw [if_pos (by rfl),if_pos trivial];unfold qA;rw [a3];simp
  | true=>
  rw [if_neg (by simp)]
  by_cases a4:(bl o.Data).length > 256
  · rw [if_pos (by simp only [decide_eq_true_eq];omega),if_pos trivial]
    unfold qA;rw [show decide ((bl o.Data).length ≤ 256)=false from by simp;omega];simp
  rw [if_neg (by simp only [decide_eq_true_eq];omega),Tc]
  simp only [Option.bind_some]
  by_cases a5:¬ (0 ≤ o.Owner∧o.Owner ≤ 1099511627776)
  · rw [decide_eq_false a5,if_pos (by rfl)]
    unfold qA;rw [decide_eq_false a5];simp
  have a5:0 ≤ o.Owner∧o.Owner ≤ 1099511627776:=Decidable.not_not.1 a5
  rw [decide_eq_true a5,if_neg (by simp)]
  -- the fields
  have tail:∀ x18:Int,x18=Ly (!decide (bl o.Data= [])) (!decide (o.Version=0)) (!decide (o.Owner=0)) o.Turns (decide (bl o.Path= [47]))→sH o x18=some (qA o):=by
    rintro x18 rfl
    unfold sH vI G7
    obtain ⟨k,hk⟩:∃ k:Fin 8,o.Kind=(k.val:Int):=⟨⟨o.Kind.toNat,by omega⟩,by show o.Kind=(o.Kind.toNat:Int);omega⟩
    have hk0:k.val ≠ 0:=by omega
    have key:=FC k (!decide (bl o.Data= [])) (!decide (o.Version=0)) (!decide (o.Owner=0)) o.Turns (decide (bl o.Path= [47])) hk0
    have hkl:=k.isLt
    have hix:idx ([0,13,2,19,18,16,16,20]:List Int) o.Kind=some ([0,13,2,19,18,16,16,20][k.val]!):=by
      rw [hk];unfold idx;rw [if_pos (by omega),Int.toNat_natCast,List.getElem!_eq_getElem?_getD,List.getElem?_eq_getElem (by simp)];rfl
    generalize hX:Ly (!decide (bl o.Data= [])) (!decide (o.Version=0)) (!decide (o.Owner=0)) o.Turns (decide (bl o.Path= [47]))=X at *
    unfold qA
    rw [a3,show decide (1 ≤ o.Kind∧o.Kind ≤ 7)=true from by simp;omega,show decide ((bl o.Data).length ≤ 256)=true from by simp;omega,decide_eq_true a5,hk,← key]
    simp only [Bool.true_and]
    by_cases b1:o.Version ≥ -1
    · rw [if_pos (by simpa using b1)]
      by_cases b2:o.Version ≤ 281474976710656
      · rw [decide_eq_true b2,if_pos rfl,← hk,hix,hk]
        simp only [Option.bind_some]
        rw [show decide (-1 ≤ o.Version∧o.Version ≤ 281474976710656)=true from by simp;omega]
        by_cases b3:Q7 .i64 X ([0,13,2,19,18,16,16,20][k.val]!)=0
        · rw [if_pos (by simpa using b3),b3]
          by_cases b4:k.val=7
          · rw [if_neg (by simp;omega),show (k.val != 7)=false from by simp [b4]]
            simp only [beq_self_eq_true,Bool.true_and,Bool.false_or]
            congr 1
            rw [Bool.eq_iff_iff]
            simp only [decide_eq_true_eq,Bool.not_eq_true',decide_eq_false_iff_not]
            omega
          · rw [if_pos (by simp;omega),show (k.val != 7)=true from by simp [b4]]
            simp
        · rw [if_neg (fun h=>b3 (eq_of_beq h)),beq_eq_false_iff_ne.2 b3]
          rfl
      · rw [decide_eq_false b2,if_neg (by simp)]
        rw [show decide (-1 ≤ o.Version∧o.Version ≤ 281474976710656)=false from by simp;omega]
        rfl
    · rw [if_neg (by simpa using b1),if_neg (by simp)]
      rw [show decide (-1 ≤ o.Version∧o.Version ≤ 281474976710656)=false from by simp;omega]
      rfl
  have t5:∀ x,(x=if o.Turns then ior .i64 (if (!decide (o.Owner=0)) then ior .i64 (if (!decide (o.Version=0)) then ior .i64 (if (!decide (bl o.Data= [])) then ior .i64 0 1 else 0) 2 else (if (!decide (bl o.Data= [])) then ior .i64 0 1 else 0)) 4 else (if (!decide (o.Version=0)) then ior .i64 (if (!decide (bl o.Data= [])) then ior .i64 0 1 else 0) 2 else (if (!decide (bl o.Data= [])) then ior .i64 0 1 else 0))) 8 else (if (!decide (o.Owner=0)) then ior .i64 (if (!decide (o.Version=0)) then ior .i64 (if (!decide (bl o.Data= [])) then ior .i64 0 1 else 0) 2 else (if (!decide (bl o.Data= [])) then ior .i64 0 1 else 0)) 4 else (if (!decide (o.Version=0)) then ior .i64 (if (!decide (bl o.Data= [])) then ior .i64 0 1 else 0) 2 else (if (!decide (bl o.Data= [])) then ior .i64 0 1 else 0))))→sI o x=some (qA o):=by
    rintro x rfl
    unfold sI
    rw [vV,Er]
    by_cases c:bl o.Path= [47]
    · rw [if_pos (by simpa using c)];exact tail _ (by unfold Ly;simp only [c];rfl)
    · rw [if_neg (by simpa using c)];exact tail _ (by unfold Ly;simp only [c];rfl)
  have t4:∀ x,(x=if (!decide (o.Owner=0)) then ior .i64 (if (!decide (o.Version=0)) then ior .i64 (if (!decide (bl o.Data= [])) then ior .i64 0 1 else 0) 2 else (if (!decide (bl o.Data= [])) then ior .i64 0 1 else 0)) 4 else (if (!decide (o.Version=0)) then ior .i64 (if (!decide (bl o.Data= [])) then ior .i64 0 1 else 0) 2 else (if (!decide (bl o.Data= [])) then ior .i64 0 1 else 0)))→sJ o x=some (qA o):=by
    rintro x rfl
    unfold sJ
    cases c:o.Turns with
    | true=>rw [if_pos rfl];exact t5 _ (by rw [c];rfl)
    | false=>rw [if_neg (by simp)];exact t5 _ (by rw [c];rfl)
  have t3:∀ x,(x=if (!decide (o.Version=0)) then ior .i64 (if (!decide (bl o.Data= [])) then ior .i64 0 1 else 0) 2 else (if (!decide (bl o.Data= [])) then ior .i64 0 1 else 0))→sK o x=some (qA o):=by
    rintro x rfl
    unfold sK
    by_cases c:o.Owner=0
    · rw [if_neg (by simpa using c)];exact t4 _ (by simp only [c];rfl)
    · rw [if_pos (by simpa using c)];exact t4 _ (by simp only [c];rfl)
  have t2:∀ x,(x=if (!decide (bl o.Data= [])) then ior .i64 0 1 else 0)→sL o x=some (qA o):=by
    rintro x rfl
    unfold sL
    by_cases c:o.Version=0
    · rw [if_neg (by simpa using c)];exact t3 _ (by simp only [c];rfl)
    · rw [if_pos (by simpa using c)];exact t3 _ (by simp only [c];rfl)
  rw [vV,emp]
  by_cases c:bl o.Data= []
  · rw [if_neg (by simpa using c)];exact t2 _ (by simp only [c];rfl)
  · rw [if_pos (by simpa using c)];exact t2 _ (by simp only [c];rfl)
end Go.Cb
