/- check.Newer: which of two pairs stands behind the other one. -/
import Derived.Test.YtlgajjcbnimjkaaGreatDoorTsw
import Derived.Test.YtlgajjcbnimjkaaGreatDoorB42sw
set_option linter.unusedVariables false
set_option linter.unusedSimpArgs false
set_option maxRecDepth 20000
namespace Go.Cb
open Go.Proofs Go.RowKit
theorem cfp:∀ (w:World) (args:Array Value),(callFunc 151 args).run Tryz.prog w= .ok (.enter 151 args) w:=fun _ args=>y8 Tryz.func151 (by kernel_rfl) (by kernel_rfl) args
theorem og(x y:Int):((some (if x=y then Ordering.eq else if x < y then Ordering.lt else Ordering.gt):Option Ordering) == some .gt)=decide (y < x):=by
 by_cases h1:x=y
 · subst h1;simp
 · by_cases h2:x < y
   · rw [if_neg h1,if_pos h2,decide_eq_false (by omega)];rfl
   · rw [if_neg h1,if_neg h2,decide_eq_true (by omega)];rfl
theorem oe(x y:Int):((some (if x=y then Ordering.eq else if x < y then Ordering.lt else Ordering.gt):Option Ordering) == some .eq)=decide (x=y):=by
 by_cases h1:x=y
 · subst h1;simp
 · by_cases h2:x < y
   · rw [if_neg h1,if_pos h2,decide_eq_false h1];rfl
   · rw [if_neg h1,if_neg h2,decide_eq_false h1];rfl
theorem Sn{w:World}{x y:Int}(hx:0 ≤ x∧x ≤ 281474976710656)(hy:0 ≤ y∧y ≤ 281474976710656):Calls Tryz.prog 151 [.int .i64 x,.int .i64 y].toArray w (Ret fun v w'=>v= .tuple #[.complex .f64 (FloatKind.f64.nearest x) (FloatKind.f64.nearest y),.bool true]∧w'=w):=by
 refine ent Tryz.func151 rfl Tryz.ntmps151 rfl rfl fun a E=>sq<|pr 2 E rfl fun a E=>nx<|pr 1 E rfl fun a E=>sv E rfl rfl rfl (Q8 E rfl rfl (v:=.float .f64 (FloatKind.f64.nearest x)) (by kernel_rfl)) fun a E=>pr 1 E rfl fun a E=>sv E rfl rfl rfl (Q8 E rfl rfl (v:=.float .f64 (FloatKind.f64.nearest y)) (by kernel_rfl)) fun a E=>sv E rfl rfl rfl (EO E rfl rfl rfl) fun a E=>pr 1 E rfl fun a E=>sv E rfl rfl rfl (lA (v:=.bool true) E rfl rfl rfl (by simp [ib,hx.1])) fun a E=>?_
 refine pr 2 E rfl fun a E=>aQ E (ws E rfl rfl rfl rfl) rfl rfl (lA (v:=.bool true) E rfl rfl rfl (by simp [ib,hy.1])) fun a E=>pr 3 E rfl fun a E=>aQ E (ws E rfl rfl rfl rfl) rfl rfl (lA (v:=.bool true) E rfl rfl rfl (by simp [ib,hx.2])) fun a E=>pr 3 E rfl fun a E=>aQ E (ws E rfl rfl rfl rfl) rfl rfl (lA (v:=.bool true) E rfl rfl rfl (by simp [ib,hy.2])) fun a E=>pr 3 E rfl fun a E=>nt<|wp_ret<|iE E rfl rfl rfl<|⟨rfl,rfl⟩
theorem Zv{w:World}{os:List Ob}{rs:List Rp}{p q c d:Int}(H:Sep w os rs)(h:Qj p q c d):Calls Tryz.prog 99 [.int .i64 p,.int .i64 q,.int .i64 c,.int .i64 d].toArray w (Ret fun v w'=>.bool (Gb p q c d)=v∧Sep w' os rs):=by
 obtain ⟨h1,h2,h3,h4⟩:=h
 obtain ⟨r,hr,ho⟩:=Nu (U5 (n:=p) (by omega)) (U5 (n:=c) (by omega))
 obtain ⟨i,hi,hoi⟩:=Nu (U5 (n:=q) (by omega)) (U5 (n:=d) (by omega))
 refine ent Tryz.func99 rfl Tryz.ntmps99 rfl rfl fun a E=>sq<|pr 1 E rfl fun a E=>nx<|pr 2 E rfl fun a E=>cJ E rfl rfl rfl rfl rfl cfp (Sn h1 h2)<|?_
 rintro _ w ⟨rfl,rfl⟩ a E
 refine pr 5 E rfl fun a E=>nx<|pr 2 E rfl fun a E=>cJ E rfl rfl rfl rfl rfl cfp (Sn h3 h4)<|?_
 rintro _ w ⟨rfl,rfl⟩ a E
 refine pr 5 E rfl fun a E=>nx<|pr 2 E rfl fun a E=>sv E rfl rfl rfl (EQ E rfl rfl rfl hr hi) fun a E=>pr 1 E rfl fun a E=>nx<|pr 6 E rfl fun a E=>aQ E (ws E rfl rfl rfl rfl) rfl rfl (Sd E rfl rfl) fun a E=>?_
 by_cases hc:c < p
 · refine aQ E (ws E rfl rfl rfl rfl) rfl rfl (Qi (v:=true) E rfl rfl rfl ho (by rw [og,decide_eq_true hc])) fun a E=>pr 12 E rfl fun a E=>nt<|wp_ret<|bB E rfl rfl<|⟨?_,H⟩
   simp [Gb,hc]
 · refine aQ E (ws E rfl rfl rfl rfl) rfl rfl (Qi (v:=false) E rfl rfl rfl ho (by rw [og,decide_eq_false hc])) fun a E=>pr 2 E rfl fun a E=>aQ E (ws E rfl rfl rfl rfl) rfl rfl (Sd E rfl rfl) fun a E=>?_
   by_cases he:p=c
   · refine aQ E (ws E rfl rfl rfl rfl) rfl rfl (Xy (v:=true) E rfl rfl rfl ho (by rw [oe,decide_eq_true he])) fun a E=>pr 2 E rfl fun a E=>aQ E (ws E rfl rfl rfl rfl) rfl rfl (EP E rfl rfl) fun a E=>aQ E (ws E rfl rfl rfl rfl) rfl rfl (Qi (v:=decide (d < q)) E rfl rfl rfl hoi (og q d)) fun a E=>pr 4 E rfl fun a E=>nt<|wp_ret<|bB E rfl rfl<|⟨?_,H⟩
     simp [Gb,hc,he]
   · refine aQ E (ws E rfl rfl rfl rfl) rfl rfl (Xy (v:=false) E rfl rfl rfl ho (by rw [oe,decide_eq_false he])) fun a E=>pr 8 E rfl fun a E=>nt<|wp_ret<|bB E rfl rfl<|⟨?_,H⟩
     simp [Gb,hc,he]
end Go.Cb
