/- check.Newer: which of two pairs stands behind the other one. -/
import Derived.Test.YtpbgbliikifjjaaGreatDoorTse
import Derived.Test.YtpbgbliikifjjaaGreatDoorB42se
set_option linter.unusedVariables false
set_option linter.unusedSimpArgs false
set_option maxRecDepth 20000
namespace Go.Cb
open Go.Proofs Go.RowKit
theorem cfp:∀ (w:World) (args:Array Value),(callFunc 187 args).run Tryz.prog w= .ok (.enter 187 args) w:=fun _ args=>yL Tryz.func187 (by kernel_rfl) (by kernel_rfl) args
theorem og(x y:Int):((some (if x=y then Ordering.eq else if x < y then Ordering.lt else Ordering.gt):Option Ordering) == some .gt)=decide (y < x):=by
 by_cases h1:x=y
 · subst h1;simp
 · by_cases h2:x < y
   · rw [if_neg h1,if_pos h2,decide_eq_false (by omega)];rfl
   · rw [if_neg h1,if_neg h2,decide_eq_true (by omega)];rfl
theorem oe(x y:Int):((some (if x=y then Ordering.eq else if x < y then Ordering.lt else Ordering.gt):Option Ordering) == some .eq)=decide (x=y):=by
 by_cases h1:x=y
 · subst h1;simp
 · by_cases h2:x < y
   · rw [if_neg h1,if_pos h2,decide_eq_false h1];rfl
   · rw [if_neg h1,if_neg h2,decide_eq_false h1];rfl
theorem Ks{w:World}{x y:Int}(hx:0 ≤ x∧x ≤ 281474976710656)(hy:0 ≤ y∧y ≤ 281474976710656):Calls Tryz.prog 187 [.int .i64 x,.int .i64 y].toArray w (Ret fun v w'=>v= .tuple #[.complex .f64 (FloatKind.f64.nearest x) (FloatKind.f64.nearest y),.bool true]∧w'=w):=by
 refine ent Tryz.func187 rfl Tryz.ntmps187 rfl rfl fun a E=>sq<|pr 2 E rfl fun a E=>nx<|pr 1 E rfl fun a E=>sv E rfl rfl rfl (G2 E rfl rfl (v:=.float .f64 (FloatKind.f64.nearest x)) (by kernel_rfl)) fun a E=>pr 1 E rfl fun a E=>sv E rfl rfl rfl (G2 E rfl rfl (v:=.float .f64 (FloatKind.f64.nearest y)) (by kernel_rfl)) fun a E=>sv E rfl rfl rfl (Tk E rfl rfl rfl) fun a E=>pr 1 E rfl fun a E=>sv E rfl rfl rfl (iX (v:=.bool true) E rfl rfl rfl (by simp [ib,hx.1])) fun a E=>?_
 refine pr 2 E rfl fun a E=>aQ E (ws E rfl rfl rfl rfl) rfl rfl (iX (v:=.bool true) E rfl rfl rfl (by simp [ib,hy.1])) fun a E=>pr 3 E rfl fun a E=>aQ E (ws E rfl rfl rfl rfl) rfl rfl (iX (v:=.bool true) E rfl rfl rfl (by simp [ib,hx.2])) fun a E=>pr 3 E rfl fun a E=>aQ E (ws E rfl rfl rfl rfl) rfl rfl (iX (v:=.bool true) E rfl rfl rfl (by simp [ib,hy.2])) fun a E=>pr 3 E rfl fun a E=>nt<|wp_ret<|fX E rfl rfl rfl<|⟨rfl,rfl⟩
theorem Pm{w:World}{os:List Ob}{rs:List Rp}{p q c d:Int}(H:Sep w os rs)(h:Jh p q c d):Calls Tryz.prog 132 [.int .i64 p,.int .i64 q,.int .i64 c,.int .i64 d].toArray w (Ret fun v w'=>.bool (Bo p q c d)=v∧Sep w' os rs):=by
 obtain ⟨h1,h2,h3,h4⟩:=h
 obtain ⟨r,hr,ho⟩:=Hh (K2 (n:=p) (by omega)) (K2 (n:=c) (by omega))
 obtain ⟨i,hi,hoi⟩:=Hh (K2 (n:=q) (by omega)) (K2 (n:=d) (by omega))
 refine ent Tryz.func132 rfl Tryz.ntmps132 rfl rfl fun a E=>sq<|pr 1 E rfl fun a E=>nx<|pr 2 E rfl fun a E=>cG E rfl rfl rfl rfl rfl cfp (Ks h1 h2)<|?_
 rintro _ w ⟨rfl,rfl⟩ a E
 refine pr 5 E rfl fun a E=>nx<|pr 2 E rfl fun a E=>cG E rfl rfl rfl rfl rfl cfp (Ks h3 h4)<|?_
 rintro _ w ⟨rfl,rfl⟩ a E
 refine pr 5 E rfl fun a E=>nx<|pr 2 E rfl fun a E=>sv E rfl rfl rfl (Tm E rfl rfl rfl hr hi) fun a E=>pr 1 E rfl fun a E=>nx<|pr 6 E rfl fun a E=>aQ E (ws E rfl rfl rfl rfl) rfl rfl (Ki E rfl rfl) fun a E=>?_
 by_cases hc:c < p
 · refine aQ E (ws E rfl rfl rfl rfl) rfl rfl (Jg (v:=true) E rfl rfl rfl ho (by rw [og,decide_eq_true hc])) fun a E=>pr 12 E rfl fun a E=>nt<|wp_ret<|aY E rfl rfl<|⟨?_,H⟩
   simp [Bo,hc]
 · refine aQ E (ws E rfl rfl rfl rfl) rfl rfl (Jg (v:=false) E rfl rfl rfl ho (by rw [og,decide_eq_false hc])) fun a E=>pr 2 E rfl fun a E=>aQ E (ws E rfl rfl rfl rfl) rfl rfl (Ki E rfl rfl) fun a E=>?_
   by_cases he:p=c
   · refine aQ E (ws E rfl rfl rfl rfl) rfl rfl (Nj (v:=true) E rfl rfl rfl ho (by rw [oe,decide_eq_true he])) fun a E=>pr 2 E rfl fun a E=>aQ E (ws E rfl rfl rfl rfl) rfl rfl (Tl E rfl rfl) fun a E=>aQ E (ws E rfl rfl rfl rfl) rfl rfl (Jg (v:=decide (d < q)) E rfl rfl rfl hoi (og q d)) fun a E=>pr 4 E rfl fun a E=>nt<|wp_ret<|aY E rfl rfl<|⟨?_,H⟩
     simp [Bo,hc,he]
   · refine aQ E (ws E rfl rfl rfl rfl) rfl rfl (Nj (v:=false) E rfl rfl rfl ho (by rw [oe,decide_eq_false he])) fun a E=>pr 8 E rfl fun a E=>nt<|wp_ret<|aY E rfl rfl<|⟨?_,H⟩
     simp [Bo,hc,he]
end Go.Cb
