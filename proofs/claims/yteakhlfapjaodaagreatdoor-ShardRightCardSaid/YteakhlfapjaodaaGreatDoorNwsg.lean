/- check.Newer: which of two pairs stands behind the other one. -/
import Derived.Test.YteakhlfapjaodaaGreatDoorTsg
import Derived.Test.YteakhlfapjaodaaGreatDoorAsg2
set_option linter.unusedVariables false
set_option linter.unusedSimpArgs false
set_option maxRecDepth 20000
namespace Go.Cb
open Go.Proofs Go.RowKit Tryz
theorem cfp:∀ (w:WD) (args:Array VL),(callFunc 235 args).run Tryz.prog w= .ok (.enter 235 args) w:=λ _ args=>P5 func235 (by kernel_rfl) (by kernel_rfl) args
theorem og(x y:Int):((some (if x=y then Ordering.eq else if x < y then Ordering.lt else Ordering.gt):Option Ordering) == some .gt)=decide (y < x):=by
 by_cases h1:x=y
 · subst h1;simp
 · by_cases h2:x < y
   · rw [iN h1,iP h2,decide_eq_false (by omega)];rfl
   · rw [iN h1,iN h2,decide_eq_true (by omega)];rfl
theorem oe(x y:Int):((some (if x=y then Ordering.eq else if x < y then Ordering.lt else Ordering.gt):Option Ordering) == some .eq)=decide (x=y):=by
 by_cases h1:x=y
 · subst h1;simp
 · by_cases h2:x < y
   · rw [iN h1,iP h2,decide_eq_false h1];rfl
   · rw [iN h1,iN h2,decide_eq_false h1];rfl
theorem BG{w:WD}{x y:Int}(hx:0 <= x/\x <= 281474976710656)(hy:0 <= y/\y <= 281474976710656):Calls Tryz.prog 235 [.int .i64 x,.int .i64 y].toArray w (Ret λ v w'=>v= .tuple #[.complex .f64 (FloatKind.f64.nearest x) (FloatKind.f64.nearest y),.bool true]/\w'=w):=by
 refine ent func235 rfl ntmps235 rfl rfl λ a E=>sq<|pr 2 E rfl λ a E=>nx<|pr 1 E rfl λ a E=>sv E rfl rfl rfl (De E rfl rfl (v:=.float .f64 (FloatKind.f64.nearest x)) (by kernel_rfl)) λ a E=>pr 1 E rfl λ a E=>sv E rfl rfl rfl (De E rfl rfl (v:=.float .f64 (FloatKind.f64.nearest y)) (by kernel_rfl)) λ a E=>sv E rfl rfl rfl (KJ E rfl rfl rfl) λ a E=>pr 1 E rfl λ a E=>sv E rfl rfl rfl (oJ (v:=.bool true) E rfl rfl rfl (by simp [ib,hx.1])) λ a E=>?_
 refine pr 2 E rfl λ a E=>bY E (ws E rfl rfl rfl rfl) rfl rfl (oJ (v:=.bool true) E rfl rfl rfl (by simp [ib,hy.1])) λ a E=>pr 3 E rfl λ a E=>bY E (ws E rfl rfl rfl rfl) rfl rfl (oJ (v:=.bool true) E rfl rfl rfl (by simp [ib,hx.2])) λ a E=>pr 3 E rfl λ a E=>bY E (ws E rfl rfl rfl rfl) rfl rfl (oJ (v:=.bool true) E rfl rfl rfl (by simp [ib,hy.2])) λ a E=>pr 3 E rfl λ a E=>nt<|wR<|iH E rfl rfl rfl<|⟨rfl,rfl⟩
theorem IE{w:WD}{os:List Ob}{rs:List Rp}{p q c d:Int}(H:Sep w os rs)(h:Ty p q c d):Calls Tryz.prog 165 [.int .i64 p,.int .i64 q,.int .i64 c,.int .i64 d].toArray w (Ret λ v w'=>.bool (Nq p q c d)=v/\Sep w' os rs):=by
 obtain ⟨h1,h2,h3,h4⟩:=h
 obtain ⟨r,hr,ho⟩:=Xf (Em (n:=p) (by omega)) (Em (n:=c) (by omega))
 obtain ⟨i,hi,hoi⟩:=Xf (Em (n:=q) (by omega)) (Em (n:=d) (by omega))
 refine ent func165 rfl ntmps165 rfl rfl λ a E=>sq<|pr 1 E rfl λ a E=>nx<|pr 2 E rfl λ a E=>Lm E rfl rfl rfl rfl rfl cfp (BG h1 h2)<|?_
 rintro _ w ⟨rfl,rfl⟩ a E
 refine pr 5 E rfl λ a E=>nx<|pr 2 E rfl λ a E=>Lm E rfl rfl rfl rfl rfl cfp (BG h3 h4)<|?_
 rintro _ w ⟨rfl,rfl⟩ a E
 refine pr 5 E rfl λ a E=>nx<|pr 2 E rfl λ a E=>sv E rfl rfl rfl (KL E rfl rfl rfl hr hi) λ a E=>pr 1 E rfl λ a E=>nx<|pr 6 E rfl λ a E=>bY E (ws E rfl rfl rfl rfl) rfl rfl (AQ E rfl rfl) λ a E=>?_
 by_cases hc:c < p
 · refine bY E (ws E rfl rfl rfl rfl) rfl rfl (Yo (v:=true) E rfl rfl rfl ho (by rw [og,decide_eq_true hc])) λ a E=>pr 12 E rfl λ a E=>nt<|wR<|wW E rfl rfl<|⟨?_,H⟩
   simp [Nq,hc]
 · refine bY E (ws E rfl rfl rfl rfl) rfl rfl (Yo (v:=false) E rfl rfl rfl ho (by rw [og,decide_eq_false hc])) λ a E=>pr 2 E rfl λ a E=>bY E (ws E rfl rfl rfl rfl) rfl rfl (AQ E rfl rfl) λ a E=>?_
   by_cases he:p=c
   · refine bY E (ws E rfl rfl rfl rfl) rfl rfl (FT (v:=true) E rfl rfl rfl ho (by rw [oe,decide_eq_true he])) λ a E=>pr 2 E rfl λ a E=>bY E (ws E rfl rfl rfl rfl) rfl rfl (KK E rfl rfl) λ a E=>bY E (ws E rfl rfl rfl rfl) rfl rfl (Yo (v:=decide (d < q)) E rfl rfl rfl hoi (og q d)) λ a E=>pr 4 E rfl λ a E=>nt<|wR<|wW E rfl rfl<|⟨?_,H⟩
     simp [Nq,hc,he]
   · refine bY E (ws E rfl rfl rfl rfl) rfl rfl (FT (v:=false) E rfl rfl rfl ho (by rw [oe,decide_eq_false he])) λ a E=>pr 8 E rfl λ a E=>nt<|wR<|wW E rfl rfl<|⟨?_,H⟩
     simp [Nq,hc,he]
end Go.Cb
