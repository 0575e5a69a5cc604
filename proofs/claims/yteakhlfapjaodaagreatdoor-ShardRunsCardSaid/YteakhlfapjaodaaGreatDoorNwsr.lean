/- check.Newer: which of two pairs stands behind the other one. -/
import Derived.Test.YteakhlfapjaodaaGreatDoorTsr
import Derived.Test.YteakhlfapjaodaaGreatDoorAsr2
set_option linter.unusedVariables false
set_option linter.unusedSimpArgs false
set_option maxRecDepth 20000
namespace Go.Cb
open Go.Proofs Go.RowKit
theorem cfp:∀ (w:World) (args:Array Value),(callFunc 235 args).run Tryz.prog w= .ok (.enter 235 args) w:=fun _ args=>Xw Tryz.func235 (by kernel_rfl) (by kernel_rfl) args
theorem og(x y:Int):((some (if x=y then Ordering.eq else if x < y then Ordering.lt else Ordering.gt):Option Ordering) == some .gt)=decide (y < x):=by
 by_cases h1:x=y
 · subst h1;simp
 · by_cases h2:x < y
   · rw [if_neg h1,if_pos h2,decide_eq_false (by omega)];rfl
   · rw [if_neg h1,if_neg h2,decide_eq_true (by omega)];rfl
theorem oe(x y:Int):((some (if x=y then Ordering.eq else if x < y then Ordering.lt else Ordering.gt):Option Ordering) == some .eq)=decide (x=y):=by
 by_cases h1:x=y
 · subst h1;simp
 · by_cases h2:x < y
   · rw [if_neg h1,if_pos h2,decide_eq_false h1];rfl
   · rw [if_neg h1,if_neg h2,decide_eq_false h1];rfl
theorem Ul{w:World}{x y:Int}(hx:0 ≤ x∧x ≤ 281474976710656)(hy:0 ≤ y∧y ≤ 281474976710656):Calls Tryz.prog 235 [.int .i64 x,.int .i64 y].toArray w (Ret fun v w'=>v= .tuple #[.complex .f64 (FloatKind.f64.nearest x) (FloatKind.f64.nearest y),.bool true]∧w'=w):=by
 refine ent Tryz.func235 rfl Tryz.ntmps235 rfl rfl fun a E=>sq<|pr 2 E rfl fun a E=>nx<|pr 1 E rfl fun a E=>sv E rfl rfl rfl (Bi E rfl rfl (v:=.float .f64 (FloatKind.f64.nearest x)) (by kernel_rfl)) fun a E=>pr 1 E rfl fun a E=>sv E rfl rfl rfl (Bi E rfl rfl (v:=.float .f64 (FloatKind.f64.nearest y)) (by kernel_rfl)) fun a E=>sv E rfl rfl rfl (CA E rfl rfl rfl) fun a E=>pr 1 E rfl fun a E=>sv E rfl rfl rfl (sC (v:=.bool true) E rfl rfl rfl (by simp [ib,hx.1])) fun a E=>?_
 refine pr 2 E rfl fun a E=>bT E (ws E rfl rfl rfl rfl) rfl rfl (sC (v:=.bool true) E rfl rfl rfl (by simp [ib,hy.1])) fun a E=>pr 3 E rfl fun a E=>bT E (ws E rfl rfl rfl rfl) rfl rfl (sC (v:=.bool true) E rfl rfl rfl (by simp [ib,hx.2])) fun a E=>pr 3 E rfl fun a E=>bT E (ws E rfl rfl rfl rfl) rfl rfl (sC (v:=.bool true) E rfl rfl rfl (by simp [ib,hy.2])) fun a E=>pr 3 E rfl fun a E=>nt<|wp_ret<|fW E rfl rfl rfl<|⟨rfl,rfl⟩
theorem AJ{w:World}{os:List Ob}{rs:List Rp}{p q c d:Int}(H:Sep w os rs)(h:Ry p q c d):Calls Tryz.prog 165 [.int .i64 p,.int .i64 q,.int .i64 c,.int .i64 d].toArray w (Ret fun v w'=>.bool (Hh p q c d)=v∧Sep w' os rs):=by
 obtain ⟨h1,h2,h3,h4⟩:=h
 obtain ⟨r,hr,ho⟩:=Ql (Z4 (n:=p) (by omega)) (Z4 (n:=c) (by omega))
 obtain ⟨i,hi,hoi⟩:=Ql (Z4 (n:=q) (by omega)) (Z4 (n:=d) (by omega))
 refine ent Tryz.func165 rfl Tryz.ntmps165 rfl rfl fun a E=>sq<|pr 1 E rfl fun a E=>nx<|pr 2 E rfl fun a E=>Ro E rfl rfl rfl rfl rfl cfp (Ul h1 h2)<|?_
 rintro _ w ⟨rfl,rfl⟩ a E
 refine pr 5 E rfl fun a E=>nx<|pr 2 E rfl fun a E=>Ro E rfl rfl rfl rfl rfl cfp (Ul h3 h4)<|?_
 rintro _ w ⟨rfl,rfl⟩ a E
 refine pr 5 E rfl fun a E=>nx<|pr 2 E rfl fun a E=>sv E rfl rfl rfl (CC E rfl rfl rfl hr hi) fun a E=>pr 1 E rfl fun a E=>nx<|pr 6 E rfl fun a E=>bT E (ws E rfl rfl rfl rfl) rfl rfl (Tt E rfl rfl) fun a E=>?_
 by_cases hc:c < p
 · refine bT E (ws E rfl rfl rfl rfl) rfl rfl (Rx (v:=true) E rfl rfl rfl ho (by rw [og,decide_eq_true hc])) fun a E=>pr 12 E rfl fun a E=>nt<|wp_ret<|tF E rfl rfl<|⟨?_,H⟩
   simp [Hh,hc]
 · refine bT E (ws E rfl rfl rfl rfl) rfl rfl (Rx (v:=false) E rfl rfl rfl ho (by rw [og,decide_eq_false hc])) fun a E=>pr 2 E rfl fun a E=>bT E (ws E rfl rfl rfl rfl) rfl rfl (Tt E rfl rfl) fun a E=>?_
   by_cases he:p=c
   · refine bT E (ws E rfl rfl rfl rfl) rfl rfl (Yc (v:=true) E rfl rfl rfl ho (by rw [oe,decide_eq_true he])) fun a E=>pr 2 E rfl fun a E=>bT E (ws E rfl rfl rfl rfl) rfl rfl (CB E rfl rfl) fun a E=>bT E (ws E rfl rfl rfl rfl) rfl rfl (Rx (v:=decide (d < q)) E rfl rfl rfl hoi (og q d)) fun a E=>pr 4 E rfl fun a E=>nt<|wp_ret<|tF E rfl rfl<|⟨?_,H⟩
     simp [Hh,hc,he]
   · refine bT E (ws E rfl rfl rfl rfl) rfl rfl (Yc (v:=false) E rfl rfl rfl ho (by rw [oe,decide_eq_false he])) fun a E=>pr 8 E rfl fun a E=>nt<|wp_ret<|tF E rfl rfl<|⟨?_,H⟩
     simp [Hh,hc,he]
end Go.Cb
