/- check.Newer: which of two pairs stands behind the other one. -/
import Derived.Test.YteakhlfapjaodaaGreatDoorTsh
import Derived.Test.YteakhlfapjaodaaGreatDoorAsh2
set_option linter.unusedVariables false
set_option linter.unusedSimpArgs false
set_option maxRecDepth 20000
namespace Go.Cb
open Go.Proofs Go.RowKit Tryz
theorem cfp:∀ (w:WD) (args:Array VL),(callFunc 235 args).run Tryz.prog w= .ok (.enter 235 args) w:=λ_ args=>W5 func235 (by kernel_rfl) (by kernel_rfl) args
theorem og(x y:Int):((some (if x=y then Ordering.eq else if x < y then Ordering.lt else Ordering.gt):Option Ordering) == some .gt)=decide (y < x):=by
 by_cases h1:x=y
 · subst h1;simp
 · by_cases h2:x < y
   · rw [iN h1,iP h2,decide_eq_false (by omega)];rfl
   · rw [iN h1,iN h2,decide_eq_true (by omega)];rfl
theorem oe(x y:Int):((some (if x=y then Ordering.eq else if x < y then Ordering.lt else Ordering.gt):Option Ordering) == some .eq)=decide (x=y):=by
 by_cases h1:x=y
 · subst h1;simp
 · by_cases h2:x < y
   · rw [iN h1,iP h2,decide_eq_false h1];rfl
   · rw [iN h1,iN h2,decide_eq_false h1];rfl
theorem FF{w:WD}{x y:Int}(hx:0 <= x/\x <= 281474976710656)(hy:0 <= y/\y <= 281474976710656):Calls Tryz.prog 235 [.int .i64 x,.int .i64 y].toArray w (Ret λv w'=>v= .tuple #[.complex .f64 (FloatKind.f64.nearest x) (FloatKind.f64.nearest y),.bool true]/\w'=w):=by
 refine ent func235 rfl ntmps235 rfl rfl λa E=>sq<|pr 2 E rfl λa E=>nx<|pr 1 E rfl λa E=>sv E rfl rfl rfl (Fy E rfl rfl (v:=.float .f64 (FloatKind.f64.nearest x)) (by kernel_rfl)) λa E=>pr 1 E rfl λa E=>sv E rfl rfl rfl (Fy E rfl rfl (v:=.float .f64 (FloatKind.f64.nearest y)) (by kernel_rfl)) λa E=>sv E rfl rfl rfl (OI E rfl rfl rfl) λa E=>pr 1 E rfl λa E=>sv E rfl rfl rfl (oN (v:=.bool true) E rfl rfl rfl (by simp [ib,hx.1])) λa E=>?_
 refine pr 2 E rfl λa E=>cA E (ws E rfl rfl rfl rfl) rfl rfl (oN (v:=.bool true) E rfl rfl rfl (by simp [ib,hy.1])) λa E=>pr 3 E rfl λa E=>cA E (ws E rfl rfl rfl rfl) rfl rfl (oN (v:=.bool true) E rfl rfl rfl (by simp [ib,hx.2])) λa E=>pr 3 E rfl λa E=>cA E (ws E rfl rfl rfl rfl) rfl rfl (oN (v:=.bool true) E rfl rfl rfl (by simp [ib,hy.2])) λa E=>pr 3 E rfl λa E=>nt<|wR<|hX E rfl rfl rfl<|⟨rfl,rfl⟩
theorem MJ{w:WD}{os:List Ob}{rs:List Rp}{p q c d:Int}(H:Sep w os rs)(h:Xe p q c d):Calls Tryz.prog 165 [.int .i64 p,.int .i64 q,.int .i64 c,.int .i64 d].toArray w (Ret λv w'=>.bool (Qp p q c d)=v/\Sep w' os rs):=by
 obtain ⟨h1,h2,h3,h4⟩:=h
 obtain ⟨r,hr,ho⟩:=AP (Hk (n:=p) (by omega)) (Hk (n:=c) (by omega))
 obtain ⟨i,hi,hoi⟩:=AP (Hk (n:=q) (by omega)) (Hk (n:=d) (by omega))
 refine ent func165 rfl ntmps165 rfl rfl λa E=>sq<|pr 1 E rfl λa E=>nx<|pr 2 E rfl λa E=>Oi E rfl rfl rfl rfl rfl cfp (FF h1 h2)<|?_
 rintro _ w ⟨rfl,rfl⟩ a E
 refine pr 5 E rfl λa E=>nx<|pr 2 E rfl λa E=>Oi E rfl rfl rfl rfl rfl cfp (FF h3 h4)<|?_
 rintro _ w ⟨rfl,rfl⟩ a E
 refine pr 5 E rfl λa E=>nx<|pr 2 E rfl λa E=>sv E rfl rfl rfl (OK E rfl rfl rfl hr hi) λa E=>pr 1 E rfl λa E=>nx<|pr 6 E rfl λa E=>cA E (ws E rfl rfl rfl rfl) rfl rfl (EP E rfl rfl) λa E=>?_
 by_cases hc:c < p
 · refine cA E (ws E rfl rfl rfl rfl) rfl rfl (CE (v:=true) E rfl rfl rfl ho (by rw [og,decide_eq_true hc])) λa E=>pr 12 E rfl λa E=>nt<|wR<|xJ E rfl rfl<|⟨?_,H⟩
   simp [Qp,hc]
 · refine cA E (ws E rfl rfl rfl rfl) rfl rfl (CE (v:=false) E rfl rfl rfl ho (by rw [og,decide_eq_false hc])) λa E=>pr 2 E rfl λa E=>cA E (ws E rfl rfl rfl rfl) rfl rfl (EP E rfl rfl) λa E=>?_
   by_cases he:p=c
   · refine cA E (ws E rfl rfl rfl rfl) rfl rfl (JY (v:=true) E rfl rfl rfl ho (by rw [oe,decide_eq_true he])) λa E=>pr 2 E rfl λa E=>cA E (ws E rfl rfl rfl rfl) rfl rfl (OJ E rfl rfl) λa E=>cA E (ws E rfl rfl rfl rfl) rfl rfl (CE (v:=decide (d < q)) E rfl rfl rfl hoi (og q d)) λa E=>pr 4 E rfl λa E=>nt<|wR<|xJ E rfl rfl<|⟨?_,H⟩
     simp [Qp,hc,he]
   · refine cA E (ws E rfl rfl rfl rfl) rfl rfl (JY (v:=false) E rfl rfl rfl ho (by rw [oe,decide_eq_false he])) λa E=>pr 8 E rfl λa E=>nt<|wR<|xJ E rfl rfl<|⟨?_,H⟩
     simp [Qp,hc,he]
end Go.Cb
