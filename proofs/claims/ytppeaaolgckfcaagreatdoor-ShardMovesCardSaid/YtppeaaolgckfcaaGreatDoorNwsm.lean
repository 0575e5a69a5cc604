/- check.Newer: which of two pairs stands behind the other one. -/
import Derived.Test.YtppeaaolgckfcaaGreatDoorTsm
import Derived.Test.YtppeaaolgckfcaaGreatDoorAsm2
set_option linter.unusedVariables false
set_option linter.unusedSimpArgs false
set_option maxRecDepth 20000
namespace Go.Cb
open Go.Proofs Go.RowKit Tryz
theorem cfp:∀ (w:WD) (args:Array VL),(callFunc 178 args).run Tryz.prog w= .ok (.enter 178 args) w:=λ_ args=>Aj func178 (by kernel_rfl) (by kernel_rfl) args
theorem og(x y:Int):((some (if x=y then Ordering.eq else if x < y then Ordering.lt else Ordering.gt):Option Ordering) == some .gt)=decide (y < x):=by
 by_cases h1:x=y
 · subst h1;simp
 · by_cases h2:x < y
   · rw [iN h1,iP h2,decide_eq_false (by omega)];rfl
   · rw [iN h1,iN h2,decide_eq_true (by omega)];rfl
theorem oe(x y:Int):((some (if x=y then Ordering.eq else if x < y then Ordering.lt else Ordering.gt):Option Ordering) == some .eq)=decide (x=y):=by
 by_cases h1:x=y
 · subst h1;simp
 · by_cases h2:x < y
   · rw [iN h1,iP h2,decide_eq_false h1];rfl
   · rw [iN h1,iN h2,decide_eq_false h1];rfl
theorem GG{w:WD}{x y:Int}(hx:0 <= x/\x <= 281474976710656)(hy:0 <= y/\y <= 281474976710656):Calls Tryz.prog 178 [.int .i64 x,.int .i64 y].toArray w (Ret λv w'=>v= .tuple #[.complex .f64 (FloatKind.f64.nearest x) (FloatKind.f64.nearest y),.bool true]/\w'=w):=by
 refine ent func178 rfl ntmps178 rfl rfl λa E=>sq<|pr 2 E rfl λa E=>nx<|pr 1 E rfl λa E=>sv E rfl rfl rfl (Ha E rfl rfl (v:=.float .f64 (FloatKind.f64.nearest x)) (by kernel_rfl)) λa E=>pr 1 E rfl λa E=>sv E rfl rfl rfl (Ha E rfl rfl (v:=.float .f64 (FloatKind.f64.nearest y)) (by kernel_rfl)) λa E=>sv E rfl rfl rfl (QA E rfl rfl rfl) λa E=>pr 1 E rfl λa E=>sv E rfl rfl rfl (pI (v:=.bool true) E rfl rfl rfl (by simp [ib,hx.1])) λa E=>?_
 refine pr 2 E rfl λa E=>eS E (ws E rfl rfl rfl rfl) rfl rfl (pI (v:=.bool true) E rfl rfl rfl (by simp [ib,hy.1])) λa E=>pr 3 E rfl λa E=>eS E (ws E rfl rfl rfl rfl) rfl rfl (pI (v:=.bool true) E rfl rfl rfl (by simp [ib,hx.2])) λa E=>pr 3 E rfl λa E=>eS E (ws E rfl rfl rfl rfl) rfl rfl (pI (v:=.bool true) E rfl rfl rfl (by simp [ib,hy.2])) λa E=>pr 3 E rfl λa E=>nt<|wR<|iW E rfl rfl rfl<|⟨rfl,rfl⟩
theorem NU{w:WD}{os:List Ob}{rs:List Rp}{p q c d:Int}(H:Sep w os rs)(h:Yb p q c d):Calls Tryz.prog 119 [.int .i64 p,.int .i64 q,.int .i64 c,.int .i64 d].toArray w (Ret λv w'=>.bool (Sa p q c d)=v/\Sep w' os rs):=by
 obtain ⟨h1,h2,h3,h4⟩:=h
 obtain ⟨r,hr,ho⟩:=BQ (Iq (n:=p) (by omega)) (Iq (n:=c) (by omega))
 obtain ⟨i,hi,hoi⟩:=BQ (Iq (n:=q) (by omega)) (Iq (n:=d) (by omega))
 refine ent func119 rfl ntmps119 rfl rfl λa E=>sq<|pr 1 E rfl λa E=>nx<|pr 2 E rfl λa E=>Pw E rfl rfl rfl rfl rfl cfp (GG h1 h2)<|?_
 rintro _ w ⟨rfl,rfl⟩ a E
 refine pr 5 E rfl λa E=>nx<|pr 2 E rfl λa E=>Pw E rfl rfl rfl rfl rfl cfp (GG h3 h4)<|?_
 rintro _ w ⟨rfl,rfl⟩ a E
 refine pr 5 E rfl λa E=>nx<|pr 2 E rfl λa E=>sv E rfl rfl rfl (QC E rfl rfl rfl hr hi) λa E=>pr 1 E rfl λa E=>nx<|pr 6 E rfl λa E=>eS E (ws E rfl rfl rfl rfl) rfl rfl (FP E rfl rfl) λa E=>?_
 by_cases hc:c < p
 · refine eS E (ws E rfl rfl rfl rfl) rfl rfl (DG (v:=true) E rfl rfl rfl ho (by rw [og,decide_eq_true hc])) λa E=>pr 12 E rfl λa E=>nt<|wR<|Bp E rfl rfl<|⟨?_,H⟩
   simp [Sa,hc]
 · refine eS E (ws E rfl rfl rfl rfl) rfl rfl (DG (v:=false) E rfl rfl rfl ho (by rw [og,decide_eq_false hc])) λa E=>pr 2 E rfl λa E=>eS E (ws E rfl rfl rfl rfl) rfl rfl (FP E rfl rfl) λa E=>?_
   by_cases he:p=c
   · refine eS E (ws E rfl rfl rfl rfl) rfl rfl (LC (v:=true) E rfl rfl rfl ho (by rw [oe,decide_eq_true he])) λa E=>pr 2 E rfl λa E=>eS E (ws E rfl rfl rfl rfl) rfl rfl (QB E rfl rfl) λa E=>eS E (ws E rfl rfl rfl rfl) rfl rfl (DG (v:=decide (d < q)) E rfl rfl rfl hoi (og q d)) λa E=>pr 4 E rfl λa E=>nt<|wR<|Bp E rfl rfl<|⟨?_,H⟩
     simp [Sa,hc,he]
   · refine eS E (ws E rfl rfl rfl rfl) rfl rfl (LC (v:=false) E rfl rfl rfl ho (by rw [oe,decide_eq_false he])) λa E=>pr 8 E rfl λa E=>nt<|wR<|Bp E rfl rfl<|⟨?_,H⟩
     simp [Sa,hc,he]
end Go.Cb
