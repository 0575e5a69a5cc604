/- The base: frames, worlds as owned objects and reads, steps, operations. -/
import Derived.WalkKit
import Derived.WalkLawsBesides
import Derived.WalkSpells
import Derived.Orders
import Derived.Maps.AppendAt
import Derived.ScopeJumps
import Derived.Laws.BytesArg
import Derived.Lib.AppendStr
import Derived.Lib.SliceRun
import Derived.ProofKit
import Derived.OpenShut
import Derived.ShutString
import Derived.ChangeOld
import Derived.Below
import Derived.SizedLaws
import Derived.Deep.Slices
import Derived.Laws.StructEq
import Derived.ChangeKeysEq
import Derived.RangeFuncRecord
import Derived.Scope
import Derived.Maps.Own
import Derived.Maps.Views
import Derived.StringKeys
import Derived.Carry
import Derived.Maps.OwnSet
import Derived.Shelf.SlSortCmp.InsertionK
import Derived.DeepKeys4
import Derived.ChangeKeys
set_option linter.unusedVariables false
set_option linter.unusedSimpArgs false
namespace Go.Cb
universe u u_1 u_2
theorem z{α:Sort u}{a:α}:a=a:=Eq.refl a
theorem bS {α : Type u_1} {β : Type u_2} (a : α) (f : α → Option β) : (some a).bind f = f a := rfl
theorem iP {c : Prop} {h : Decidable c} (hc : c) {α : Sort u} {t e : α} : (ite c t e) = t := _root_.if_pos hc
theorem iN {c : Prop} {h : Decidable c} (hc : ¬c) {α : Sort u} {t e : α} : (ite c t e) = e := _root_.if_neg hc
abbrev wK := @wp_skip
abbrev wX := @wp_exit
abbrev wR := @wp_ret
abbrev wS := @wp_seq
abbrev wB := @wp_block
abbrev wG := @wp_region_lit
abbrev wN := @wpList_nil
theorem nL (n : Nat) : n < n.succ := Nat.lt_succ_self n
abbrev BY := ByteArray
abbrev VL := Value
abbrev WD := World
abbrev TI := TypeId
open Go.RowKit

/-! ### the frame -/
def pJ:List (Nat×VL)->Nat->Option VL
 | [],_=>none
 | (t,v)::r,k=>bif Nat.beq t k then some v else pJ r k

structure Env (n:Nat) (a:Act) (env:List (Nat×VL)):Prop where
 size:a.tmps.size=n
 defers:a.defers= []
 get:∀ t v,pJ env t=some v->a.tmps[t]? =some v

section
variable {n:Nat} {a:Act} {env:List (Nat×VL)}
theorem Env.put (E:Env n a env) (d:Nat) (hd:Nat.ble (d+1) n=true) (v:VL):Env n (a.put (some d) v) ((d,v)::env):=by
 have hd':d < n:=Nat.le_of_ble_eq_true hd;refine ⟨by simp [Act.put,E.size],by simp [Act.put,E.defers],λt u h=>?_⟩;simp only [pJ] at h;by_cases e:d=t
 ·subst e;simp at h;subst h;simp only [Act.put];rw [Array.getElem?_setIfInBounds_self_of_lt (by rw [E.size];exact hd')]
 have hb:Nat.beq d t=false:=by
  cases hq:Nat.beq d t with
  | false=>rfl
  | true=>exact absurd (Nat.eq_of_beq_eq_true hq) e
 rw [hb] at h;simp at h;simp only [Act.put];rw [Array.getElem?_setIfInBounds_ne e];exact E.get t u h
theorem Env.nil (E:Env n a env):Env n a []:=⟨E.size,E.defers,λt v h=>by cases h⟩
theorem Env.keep {env':List (Nat×VL)} (E':Env n a env') (E:Env n a env) (t:Nat) {v:VL} (h:pJ env t=some v):Env n a ((t,v)::env'):=by
 refine ⟨E.size,E.defers,λk u hk=>?_⟩;simp only [pJ] at hk;by_cases e:t=k
 ·subst e;simp at hk;subst hk;exact E.get _ _ h
 have hb:Nat.beq t k=false:=by
  cases hq:Nat.beq t k with
  | false=>rfl
  | true=>exact absurd (Nat.eq_of_beq_eq_true hq) e
 rw [hb] at hk;simp at hk;exact E'.get _ _ hk
def opv(env:List (Nat×VL)):Operand->Option VL
 | .tmp t=>pJ env t
 | .const v=>some v
 | .global g=>some (.pointer (some ⟨g,0,none⟩))
 | .func f=>some (.func (.func f) #[] #[])
theorem Env.eval (E:Env n a env) {x:Operand} {v:VL} (h:opv env x=some v):a.eval x=v:=by
 cases x with
 | tmp t=>
  have:=E.get t v h;simp [Act.eval,Array.getD_eq_getD_getElem?,this]
 | const u=>simpa [opv,Act.eval] using h
 | global g=>simpa [opv,Act.eval] using h
 | func f=>simpa [opv,Act.eval] using h
def Ai(env:List (Nat×VL)):List Operand->Option (List VL)
 | []=>some []
 | x::r=>match opv env x,Ai env r with
  | some v,some vs=>some (v::vs)
  | _,_=>none
theorem Env.evals (E:Env n a env):∀ {xs:List Operand} {vs:List VL},Ai env xs=some vs->(xs.toArray.map a.eval)=vs.toArray:=by
 intro xs
 induction xs with
 | nil=>intro vs h;simp [Ai] at h;subst h;simp
 | cons x r ih=>
  intro vs h;simp only [Ai] at h;split at h
  ·rename_i v us hx hr;cases h;have h1:=E.eval hx;have h2:=ih hr;simp only [List.map_toArray,List.map_cons] at h2 ⊢;rw [h1];have h3:List.map a.eval r=us:=by simpa using h2
   rw [h3]
  cases h
theorem Env.getD (E:Env n a env) {t:Nat} {v:VL} (h:pJ env t=some v):a.tmps.getD t undef=v:=by
 have:=E.get t v h;simp [Array.getD_eq_getD_getElem?,this]
/-- a new frame: the parameters, then undef. -/
theorem Env.enter (args:List VL) (m:Nat) (hm:args.length <= m):Env m { tmps:=args.toArray ++ Array.replicate (m - args.toArray.size) undef,defers:=[] } (args.zipIdx.map λ(v,i)=>(i,v)):=by
 refine ⟨by simp;omega,rfl,λt v h=>?_⟩;have key:∀ (l:List VL) (k t:Nat) (v:VL),pJ ((l.zipIdx k).map λ(v,i)=>(i,v)) t=some v->k <= t/\l[t - k]? =some v:=by
  intro l
  induction l with
  | nil=>intro k t v h;simp [pJ] at h
  | cons x l ih=>
   intro k t v h;simp only [List.zipIdx_cons,List.map_cons,pJ] at h;cases hq:Nat.beq k t with
   | true=>
    rw [hq] at h;have:k=t:=Nat.eq_of_beq_eq_true hq;subst this;simpa using h
   | false=>
    rw [hq] at h;have hne:k ≠ t:=λe=>by subst e;simp at hq
    obtain ⟨h1,h2⟩:=ih (k+1) t v h;refine ⟨by omega,?_⟩;have:t - k=(t - (k+1))+1:=by omega
    rw [this];simpa using h2
 obtain ⟨_,h2⟩:=key args 0 t v h;simp only [Nat.sub_zero] at h2;have hlt:t < args.length:=by
  rcases Nat.lt_or_ge t args.length with h | h
  ·exact h
  rw [List.getElem?_eq_none h] at h2;cases h2
 show (args.toArray ++ Array.replicate (m - args.toArray.size) undef)[t]? =some v;rw [Array.getElem?_append_left (by simpa using hlt)];simpa using h2
end

/-! ### what is kept -/
structure Kp (ok:Nat->Prop) (w w':WD):Prop where
 os:w'.os=w.os
 tape:w'.tape=w.tape
 output:w'.output=w.output
 size:w.heap.size <= w'.heap.size
 block:∀ b,b < w.heap.size->ok b->w'.heap[b]? =w.heap[b]?
theorem Kp.refl (ok:Nat->Prop) (w:WD):Kp ok w w:=⟨rfl,rfl,rfl,Nat.le_refl _,λ_ _ _=>rfl⟩
theorem Kp.trans {ok:Nat->Prop} {a b c:WD} (h:Kp ok a b) (k:Kp ok b c):Kp ok a c:=
 ⟨k.os.trans h.os,k.tape.trans h.tape,k.output.trans h.output,Nat.le_trans h.size k.size,λi hi ho=>(k.block i (Nat.lt_of_lt_of_le hi h.size) ho).trans (h.block i hi ho)⟩
theorem Kp.mono {ok ok':Nat->Prop} {w w':WD} (h:Kp ok w w') (hk:∀ b,b < w.heap.size->ok' b->ok b):Kp ok' w w':=⟨h.os,h.tape,h.output,h.size,λb hb ho=>h.block b hb (hk b hb ho)⟩
theorem Kp.drew (ok:Nat->Prop) (w:WD):Kp ok w w.drew:=⟨rfl,rfl,rfl,Nat.le_refl _,λ_ _ _=>rfl⟩
theorem Kp.drawn (ok:Nat->Prop) (w:WD) (n:Nat):Kp ok w { w with drawn:=n }:=⟨rfl,rfl,rfl,Nat.le_refl _,λ_ _ _=>rfl⟩
theorem Kp.alloc (ok:Nat->Prop) (w:WD) (o:Obj):Kp ok w (w.alloc o):=⟨rfl,rfl,rfl,by simp,λb hb _=>heap_alloc_old w o hb⟩
theorem Kp.setCell (w:WD) (p:Addr) (v:VL):Kp (λb=>b ≠ p.block) w (w.setCell p v):=
 ⟨rfl,rfl,rfl,by simp [World.setCell],λb _ hb=>Below.heap_setCell w p v b hb⟩
theorem Kp.grown {w w':WD} {row:Option Nat} (h:w.grownBy w' row):Kp (λb=>some b ≠ row) w w':=⟨h.os,h.tape,h.output,h.size,λb hb ho=>h.block b hb ho⟩
theorem Kp.cell {ok:Nat->Prop} {w w':WD} (h:Kp ok w w') {p:Addr} {v:VL} (ho:ok p.block) (hc:w.cell? p=some v):w'.cell? p=some v:=
 (World.cell?_of_block (h.block p.block (World.block_lt_of_cell? w p hc) ho)).trans hc

/-! ### reads, objects -/
structure Rp where
 p:WD->(Nat->Prop)->Prop
 keep:∀ {w w':WD} {ok ok':Nat->Prop},p w ok->Kp ok w w'->(∀ b,b < w.heap.size->ok b->ok' b)->p w' ok'
structure Ob where
 p:WD->(Nat->Prop)->(Nat->Prop)->Prop
 keep:∀ {w w':WD} {own own' ok ok':Nat->Prop},p w own ok->Kp (λb=>own b∨ok b) w w'->(∀ b,b < w.heap.size->own b->own' b)->(∀ b,b < w.heap.size->ok b->ok' b)->p w' own' ok'
instance:Inhabited Ob:=⟨⟨λ_ _ _=>True,λ_ _ _ _=>trivial⟩⟩

def Sep(w:WD)(os:List Ob)(rs:List Rp):Prop:=
 ∃ col:Nat->Nat,(∀ (i:Nat) (o:Ob),os[i]? =some o->o.p w (λb=>col b=i+1) (λb=>col b=0))/\∀ r:Rp,r ∈ rs->r.p w (λb=>col b=0)

section
variable {w w':WD} {os os':List Ob} {rs rs':List Rp}
theorem Sep.kept (H:Sep w os rs) (k:Kp (λ_=>True) w w'):Sep w' os rs:=by
 obtain ⟨col,h1,h2⟩:=H;exact ⟨col,λi o hi=>o.keep (h1 i o hi) (k.mono λ_ _ _=>trivial) (λ_ _ h=>h) (λ_ _ h=>h),λr hr=>r.keep (h2 r hr) (k.mono λ_ _ _=>trivial) (λ_ _ h=>h)⟩
theorem Sep.drew (H:Sep w os rs):Sep w.drew os rs:=H.kept (Kp.drew _ w)
theorem Sep.reads (H:Sep w os rs) (h:∀ r:Rp,r ∈ rs'->r ∈ rs):Sep w os rs':=by
 obtain ⟨col,h1,h2⟩:=H;exact ⟨col,h1,λr hr=>h2 r (h r hr)⟩
/-- one more read, out of the reads. -/
theorem Sep.derive (H:Sep w os rs) (r:Rp) (h:∀ ok,(∀ x:Rp,x ∈ rs->x.p w ok)->r.p w ok):Sep w os (r::rs):=by
 obtain ⟨col,h1,h2⟩:=H;refine ⟨col,h1,λx hx=>?_⟩;cases hx with
 | head=>exact h _ h2
 | tail _ hx=>exact h2 x hx
theorem Sep.derive1 (H:Sep w os rs) {r0:Rp} (h0:r0 ∈ rs) (r:Rp) (h:∀ ok,r0.p w ok->r.p w ok):Sep w os (r::rs):=
 H.derive r λok hx=>h ok (hx r0 h0)
theorem Sep.rd (H:Sep w os rs) {r:Rp} (h:r ∈ rs):∃ ok,r.p w ok:=by
 obtain ⟨col,h1,h2⟩:=H;exact ⟨_,h2 r h⟩
theorem Sep.ob (H:Sep w os rs) (i:Nat) {o:Ob} (h:os[i]? =some o):∃ own ok,o.p w own ok:=by
 obtain ⟨col,h1,h2⟩:=H;exact ⟨_,_,h1 i o h⟩
/-- object i turns, within its own blocks and new ones. -/
theorem Sep.upd_col {col:Nat->Nat} (h1:∀ (i:Nat) (o:Ob),os[i]? =some o->o.p w (λb=>col b=i+1) (λb=>col b=0)) (h2:∀ r:Rp,r ∈ rs->r.p w (λb=>col b=0)) (i:Nat) {o o':Ob} (hi:os[i]? =some o)
  (hk:Kp (λb=>¬ col b=i+1) w w') (ho:o'.p w' (λb=>col b=i+1∨w.heap.size <= b) (λb=>col b=0/\b < w.heap.size)):Sep w' (os.set i o') rs:=by
 have hlt:i < os.length:=by
  rcases Nat.lt_or_ge i os.length with h | h
  ·exact h
  rw [List.getElem?_eq_none h] at hi;cases hi
 refine ⟨λb=>if w.heap.size <= b then i+1 else col b,λj x hj=>?_,λr hr=>?_⟩
 ·by_cases e:i=j
  ·subst e;rw [List.getElem?_set_self hlt] at hj;cases hj;refine o'.keep ho (Kp.refl _ _) (λb _ hb=>?_) (λb _ hb=>?_)
   ·rcases hb with hb | hb
    ·show (if w.heap.size <= b then i+1 else col b)=i+1;split <;> simp_all
    show (if w.heap.size <= b then i+1 else col b)=i+1;rw [iP hb]
   show (if w.heap.size <= b then i+1 else col b)=0;rw [iN (by omega)];exact hb.1
  rw [List.getElem?_set_ne e] at hj;refine x.keep (h1 j x hj) (hk.mono λb _ hb=>?_) (λb hb h=>?_) (λb hb h=>?_)
  ·show ¬ col b=i+1;rcases hb with hb | hb <;> omega
  ·show (if w.heap.size <= b then i+1 else col b)=j+1;rw [iN (by omega)];exact h
  show (if w.heap.size <= b then i+1 else col b)=0;rw [iN (by omega)];exact h
 refine r.keep (h2 r hr) (hk.mono λb _ hb=>by show ¬ col b=i+1;omega) (λb hb h=>?_);show (if w.heap.size <= b then i+1 else col b)=0;rw [iN (by omega)];exact h
theorem Sep.upd (H:Sep w os rs) (i:Nat) {o o':Ob} (hi:os[i]? =some o)
  (h:∀ own ok:Nat->Prop,(∀ b,own b->¬ ok b)->o.p w own ok->Kp (λb=>¬ own b) w w'/\o'.p w' (λb=>own b∨w.heap.size <= b) (λb=>ok b/\b < w.heap.size)):Sep w' (os.set i o') rs:=by
 obtain ⟨col,h1,h2⟩:=H;obtain ⟨hk,ho⟩:=h (λb=>col b=i+1) (λb=>col b=0) (λb h h'=>by omega) (h1 i o hi);exact Sep.upd_col h1 h2 i hi hk ho
/-- a new object, of new blocks. -/
theorem Sep.new (H:Sep w os rs) {o:Ob} (hk:Kp (λ_=>True) w w') (h:∀ ok:Nat->Prop,(∀ r:Rp,r ∈ rs->r.p w ok)->o.p w' (λb=>w.heap.size <= b) (λb=>ok b/\b < w.heap.size)):Sep w' (o::os) rs:=by
 obtain ⟨col,h1,h2⟩:=H;refine ⟨λb=>if w.heap.size <= b then 1 else if col b=0 then 0 else col b+1,λj x hj=>?_,λr hr=>?_⟩
 ·cases j with
  | zero=>
   simp at hj;subst hj;refine o.keep (h _ h2) (Kp.refl _ _) (λb _ hb=>?_) (λb _ hb=>?_)
   ·show (if w.heap.size <= b then 1 else _)=0+1;rw [iP hb]
   show (if w.heap.size <= b then 1 else if col b=0 then 0 else col b+1)=0;rw [iN (by omega),iP hb.1]
  | succ j=>
   simp at hj;refine x.keep (h1 j x hj) (hk.mono λ_ _ _=>trivial) (λb hb h=>?_) (λb hb h=>?_)
   ·show (if w.heap.size <= b then 1 else if col b=0 then 0 else col b+1)=j+1+1;rw [iN (by omega),iN (by omega),h]
   show (if w.heap.size <= b then 1 else if col b=0 then 0 else col b+1)=0;rw [iN (by omega),iP h]
 refine r.keep (h2 r hr) (hk.mono λ_ _ _=>trivial) (λb hb h=>?_);show (if w.heap.size <= b then 1 else if col b=0 then 0 else col b+1)=0;rw [iN (by omega),iP h]
/-- a new read, of new blocks. -/
theorem Sep.newR (H:Sep w os rs) {r:Rp} (hk:Kp (λ_=>True) w w') (h:∀ ok:Nat->Prop,(∀ r:Rp,r ∈ rs->r.p w ok)->r.p w' (λb=>w.heap.size <= b∨ok b)):Sep w' os (r::rs):=by
 obtain ⟨col,h1,h2⟩:=H;refine ⟨λb=>if w.heap.size <= b then 0 else col b,λj x hj=>?_,λx hx=>?_⟩
 ·refine x.keep (h1 j x hj) (hk.mono λ_ _ _=>trivial) (λb hb h=>?_) (λb hb h=>?_)
  ·show (if w.heap.size <= b then 0 else col b)=j+1;rw [iN (by omega)];exact h
  show (if w.heap.size <= b then 0 else col b)=0;rw [iN (by omega)];exact h
 cases hx with
 | head=>
  refine r.keep (h _ h2) (Kp.refl _ _) (λb _ hb=>?_);show (if w.heap.size <= b then 0 else col b)=0;rcases hb with hb | hb
  ·rw [iP hb]
  split
  ·rfl
  exact hb
 | tail _ hx=>
  refine x.keep (h2 x hx) (hk.mono λ_ _ _=>trivial) (λb hb h=>?_);show (if w.heap.size <= b then 0 else col b)=0;rw [iN (by omega)];exact h
/-- an object is given up: it is a read from now on. -/
theorem Sep.freeze (H:Sep w os rs) (i:Nat) {o:Ob} (hi:os[i]? =some o) (r:Rp) (h:∀ own ok:Nat->Prop,o.p w own ok->r.p w (λb=>own b∨ok b)):Sep w (os.eraseIdx i) (r::rs):=by
 obtain ⟨col,h1,h2⟩:=H;refine ⟨λb=>if col b=i+1 then 0 else if i+1 < col b then col b - 1 else col b,λj x hj=>?_,λx hx=>?_⟩
 ·rw [List.getElem?_eraseIdx] at hj;split at hj
  ·rename_i hji;refine x.keep (h1 j x hj) (Kp.refl _ _) (λb _ hb=>?_) (λb _ hb=>?_)
   ·show (if col b=i+1 then 0 else if i+1 < col b then col b - 1 else col b)=j+1;rw [iN (by omega),iN (by omega)];exact hb
   show (if col b=i+1 then 0 else if i+1 < col b then col b - 1 else col b)=0;rw [iN (by omega),iN (by omega)];exact hb
  rename_i hji;refine x.keep (h1 (j+1) x hj) (Kp.refl _ _) (λb _ hb=>?_) (λb _ hb=>?_)
  ·show (if col b=i+1 then 0 else if i+1 < col b then col b - 1 else col b)=j+1;rw [iN (by omega),iP (by omega)];omega
  show (if col b=i+1 then 0 else if i+1 < col b then col b - 1 else col b)=0;rw [iN (by omega),iN (by omega)];exact hb
 cases hx with
 | head=>
  refine r.keep (h _ _ (h1 i o hi)) (Kp.refl _ _) (λb _ hb=>?_);show (if col b=i+1 then 0 else if i+1 < col b then col b - 1 else col b)=0;rcases hb with hb | hb
  ·rw [iP hb]
  rw [iN (by omega),iN (by omega)];exact hb
 | tail _ hx=>
  refine x.keep (h2 x hx) (Kp.refl _ _) (λb _ hb=>?_);show (if col b=i+1 then 0 else if i+1 < col b then col b - 1 else col b)=0;rw [iN (by omega),iN (by omega)];exact hb
/-- an object is forgotten. -/
theorem Sep.drop (H:Sep w os rs) (i:Nat):Sep w (os.eraseIdx i) rs:=by
 cases hi:os[i]? with
 | none=>
  have:os.eraseIdx i=os:=List.eraseIdx_of_length_le (by
   rcases Nat.lt_or_ge i os.length with h | h
   ·rw [List.getElem?_eq_getElem h] at hi;cases hi
   exact h)
  rw [this];exact H
 | some o=>exact (H.freeze i hi ⟨λ_ _=>True,λ_ _ _=>trivial⟩ (λ_ _ _=>trivial)).reads λr hr=>.tail _ hr
/-- object i comes first. -/
theorem Sep.front (H:Sep w os rs) (i:Nat) {o:Ob} (hi:os[i]? =some o):Sep w (o::os.eraseIdx i) rs:=by
 obtain ⟨col,h1,h2⟩:=H;refine ⟨λb=>if col b=i+1 then 1 else if col b=0 then 0 else if col b < i+1 then col b+1 else col b,λj x hj=>?_,λx hx=>?_⟩
 ·cases j with
  | zero=>
   simp at hj;subst hj;refine o.keep (h1 i o hi) (Kp.refl _ _) (λb _ hb=>?_) (λb _ hb=>?_)
   ·show (if col b=i+1 then 1 else if col b=0 then 0 else if col b < i+1 then col b+1 else col b)=0+1;rw [iP hb]
   show (if col b=i+1 then 1 else if col b=0 then 0 else if col b < i+1 then col b+1 else col b)=0;rw [iN (by omega),iP hb]
  | succ j=>
   simp only [List.getElem?_cons_succ] at hj;rw [List.getElem?_eraseIdx] at hj;split at hj
   ·rename_i hji;refine x.keep (h1 j x hj) (Kp.refl _ _) (λb _ hb=>?_) (λb _ hb=>?_)
    ·show (if col b=i+1 then 1 else if col b=0 then 0 else if col b < i+1 then col b+1 else col b)=j+1+1;rw [iN (by omega),iN (by omega),iP (by omega),hb]
    show (if col b=i+1 then 1 else if col b=0 then 0 else if col b < i+1 then col b+1 else col b)=0;rw [iN (by omega),iP hb]
   rename_i hji;refine x.keep (h1 (j+1) x hj) (Kp.refl _ _) (λb _ hb=>?_) (λb _ hb=>?_)
   ·show (if col b=i+1 then 1 else if col b=0 then 0 else if col b < i+1 then col b+1 else col b)=j+1+1;rw [iN (by omega),iN (by omega),iN (by omega),hb]
   show (if col b=i+1 then 1 else if col b=0 then 0 else if col b < i+1 then col b+1 else col b)=0;rw [iN (by omega),iP hb]
 refine x.keep (h2 x hx) (Kp.refl _ _) (λb _ hb=>?_);show (if col b=i+1 then 1 else if col b=0 then 0 else if col b < i+1 then col b+1 else col b)=0;rw [iN (by omega),iP hb]
end
end Go.Cb

namespace Go.Cb
open Go.RowKit

/-! ### kinds of data: how a datum lies in cells -/
structure Kd (α:Type) where
 sz:Nat
 pos:0 < sz
 R:WD->(Nat->Prop)->α->List VL->Prop
 len:∀ {w:WD} {ok:Nat->Prop} {x:α} {cs:List VL},R w ok x cs->cs.length=sz
 one:∀ {w:WD} {ok:Nat->Prop} {x:α} {cs:List VL},R w ok x cs->∀ c ∈ cs,c.oneCell'=true
 keep:∀ {w w':WD} {ok ok':Nat->Prop} {x:α} {cs:List VL},R w ok x cs->Kp ok w w'->(∀ b,b < w.heap.size->ok b->ok' b)->R w' ok' x cs
def Kd.scalar {α:Type} (f:α->VL) (h:∀ x,(f x).oneCell'=true):Kd α where
 sz:=1
 pos:=Nat.one_pos
 R _ _ x cs:=cs= [f x]
 len h:=by subst h;rfl
 one e:=by intro c hc;subst e;simp at hc;subst hc;exact h _
 keep h _ _:=h
def kI(k:IntKind):Kd Int:=Kd.scalar (Value.int k) λ_=>rfl
def kB:Kd Bool:=Kd.scalar Value.bool λ_=>rfl
def kS:Kd ByteArray:=Kd.scalar Value.string λ_=>rfl
def kP{α β:Type}(a:Kd α)(b:Kd β):Kd (α×β) where
 sz:=a.sz+b.sz
 pos:=Nat.add_pos_left a.pos _
 R w ok x cs:=∃ c1 c2,cs=c1 ++ c2/\a.R w ok x.1 c1/\b.R w ok x.2 c2
 len:=by rintro w ok x cs ⟨c1,c2,rfl,h1,h2⟩;rw [List.length_append,a.len h1,b.len h2]
 one:=by
  rintro w ok x cs ⟨c1,c2,rfl,h1,h2⟩ c hc;rcases List.mem_append.1 hc with hc | hc
  ·exact a.one h1 c hc
  exact b.one h2 c hc
 keep:=by rintro w w' ok ok' x cs ⟨c1,c2,rfl,h1,h2⟩ k hk;exact ⟨c1,c2,rfl,a.keep h1 k hk,b.keep h2 k hk⟩
def rD{α β:Type}(d:Kd α)(f:β->α):Kd β where
 sz:=d.sz
 pos:=d.pos
 R w ok x cs:=d.R w ok (f x) cs
 len:=d.len
 one:=d.one
 keep:=d.keep

/-- the flat cells of a row of data. -/
def Rows{α:Type}(d:Kd α)(w:WD)(ok:Nat->Prop)(xs:List α)(flat:List VL):Prop:=
 flat.length=xs.length * d.sz/\∀ i x,xs[i]? =some x->d.R w ok x ((flat.drop (i * d.sz)).take d.sz)
/-- a slice that is read. -/
def Sl{α:Type}(d:Kd α)(w:WD)(ok:Nat->Prop)(v:VL)(xs:List α):Prop:=
 ∃ a c flat,v= .slice a xs.length c/\xs.length <= c/\Rows d w ok xs flat/\(xs ≠ []->∃ ad,a=some ad/\ok ad.block/\∀ j u,flat[j]? =some u->w.cell? (ad.add j)=some u)

section rows
variable {α:Type} {d:Kd α} {w w':WD} {ok ok':Nat->Prop} {xs ys:List α} {f g:List VL}
theorem Rows.nil (d:Kd α) (w:WD) (ok:Nat->Prop):Rows d w ok [] []:=⟨by simp,λi x h=>by simp at h⟩
theorem Rows.keep (h:Rows d w ok xs f) (k:Kp ok w w') (hk:∀ b,b < w.heap.size->ok b->ok' b):Rows d w' ok' xs f:=
 ⟨h.1,λi x hx=>d.keep (h.2 i x hx) k hk⟩
theorem Bf{β:Type}(f g:List β)(a n:Nat)(h:a+n <= f.length):((f ++ g).drop a).take n=(f.drop a).take n:=by
 rw [List.drop_append_of_le_length (by omega),List.take_append_of_le_length (by rw [List.length_drop];omega)]
theorem Rows.append (h:Rows d w ok xs f) (k:Rows d w ok ys g):Rows d w ok (xs ++ ys) (f ++ g):=by
 refine ⟨by rw [List.length_append,List.length_append,h.1,k.1,Nat.add_mul],λi x hx=>?_⟩;rcases Nat.lt_or_ge i xs.length with hi | hi
 ·rw [List.getElem?_append_left hi] at hx;have hb:i * d.sz+d.sz <= f.length:=by
   rw [h.1,← Nat.succ_mul];exact Nat.mul_le_mul_right _ hi
  rw [Bf _ _ _ _ hb];exact h.2 i x hx
 rw [List.getElem?_append_right hi] at hx;have hb:f.length <= i * d.sz:=by rw [h.1];exact Nat.mul_le_mul_right _ hi
 rw [List.drop_append,List.drop_eq_nil_of_le hb,List.nil_append];have:i * d.sz - f.length=(i - xs.length) * d.sz:=by rw [h.1,Nat.sub_mul]
 rw [this];exact k.2 _ x hx
theorem Rows.single {x:α} {cs:List VL} (h:d.R w ok x cs):Rows d w ok [x] cs:=by
 refine ⟨by simp [d.len h],λi y hy=>?_⟩;cases i with
 | zero=>simp at hy;subst hy;simp [List.take_of_length_le (Nat.le_of_eq (d.len h)),h]
 | succ i=>simp at hy
theorem Rows.set (h:Rows d w ok xs f) {i:Nat} {x:α} {cs:List VL} (hx:d.R w ok x cs) (hi:i < xs.length) :
  Rows d w ok (xs.set i x) (f.take (i * d.sz) ++ cs ++ f.drop (i * d.sz+d.sz)):=by
 have hcs:=d.len hx;have hb:i * d.sz+d.sz <= f.length:=by rw [h.1,← Nat.succ_mul];exact Nat.mul_le_mul_right _ hi
 have h1:(f.take (i * d.sz)).length=i * d.sz:=by rw [List.length_take];omega
 refine ⟨by rw [List.length_append,List.length_append,h1,hcs,List.length_drop,List.length_set,← h.1];omega,λj y hy=>?_⟩;rw [List.append_assoc];rcases Nat.lt_trichotomy j i with hj | hj | hj
 ·rw [List.getElem?_set_ne (by omega)] at hy;have hbj:j * d.sz+d.sz <= i * d.sz:=by rw [← Nat.succ_mul];exact Nat.mul_le_mul_right _ hj
  rw [Bf _ _ _ _ (by rw [h1];exact hbj),List.drop_take,List.take_take,Nat.min_eq_left (by omega)];exact h.2 j y hy
 ·subst hj;rw [List.getElem?_set_self hi] at hy;cases hy;rw [List.drop_append,List.drop_eq_nil_of_le (by omega),List.nil_append,h1,Nat.sub_self,List.drop_zero,List.take_append_of_le_length (by omega),List.take_of_length_le (by omega)];exact hx
 rw [List.getElem?_set_ne (by omega)] at hy;have hbj:i * d.sz+d.sz <= j * d.sz:=by rw [← Nat.succ_mul];exact Nat.mul_le_mul_right _ hj
 rw [List.drop_append,List.drop_eq_nil_of_le (by omega),List.nil_append,h1,List.drop_append,List.drop_eq_nil_of_le (by omega),List.nil_append,List.drop_drop,hcs];rw [show i * d.sz+d.sz+(j * d.sz - i * d.sz - d.sz)=j * d.sz from by omega];exact h.2 j y hy
theorem Rows.take (h:Rows d w ok xs f) (n:Nat) (hn:n <= xs.length):Rows d w ok (xs.take n) (f.take (n * d.sz)):=by
 have hb:n * d.sz <= f.length:=by rw [h.1];exact Nat.mul_le_mul_right _ hn
 refine ⟨by rw [List.length_take,List.length_take,Nat.min_eq_left hb,Nat.min_eq_left hn],λi x hx=>?_⟩;rw [List.getElem?_take] at hx;split at hx
 ·rename_i hi;have hbi:i * d.sz+d.sz <= n * d.sz:=by rw [← Nat.succ_mul];exact Nat.mul_le_mul_right _ hi
  rw [List.drop_take,List.take_take,Nat.min_eq_left (by omega)];exact h.2 i x hx
 cases hx
theorem Rows.drop (h:Rows d w ok xs f) (n:Nat):Rows d w ok (xs.drop n) (f.drop (n * d.sz)):=by
 refine ⟨by rw [List.length_drop,List.length_drop,h.1,Nat.sub_mul],λi x hx=>?_⟩;rw [List.getElem?_drop] at hx;rw [List.drop_drop,← Nat.add_mul];exact h.2 _ x hx
theorem Rows.one (h:Rows d w ok xs f):∀ c ∈ f,c.oneCell'=true:=by
 intro c hc;obtain ⟨j,hj,rfl⟩:=List.getElem_of_mem hc;have h0:=d.pos;have hlt:j / d.sz < xs.length:=by rw [Nat.div_lt_iff_lt_mul h0];rw [← h.1];exact hj
 have hr:=h.2 (j / d.sz) _ (List.getElem?_eq_getElem hlt);refine d.one hr _ ?_;rw [List.mem_iff_getElem?];refine ⟨j % d.sz,?_⟩;rw [List.getElem?_take_of_lt (Nat.mod_lt _ h0),List.getElem?_drop];rw [Nat.mul_comm,Nat.div_add_mod];exact List.getElem?_eq_getElem hj
theorem Rows.cell (h:Rows d w ok xs f) {i:Nat} {x:α} (hx:xs[i]? =some x):∃ cs,d.R w ok x cs/\∀ j u,cs[j]? =some u->f[i * d.sz+j]? =some u:=by
 refine ⟨_,h.2 i x hx,λj u hu=>?_⟩;rw [List.getElem?_take] at hu;split at hu
 ·rw [List.getElem?_drop] at hu;exact hu
 cases hu
theorem tD(a:Addr)(n:Nat):(a.add n).block=a.block:=by unfold Addr.add;split <;> rfl
theorem add_add(a:Addr)(i j:Nat):(a.add i).add j=a.add (i+j):=by
 unfold Addr.add;by_cases hi:i=0 <;> by_cases hj:j=0 <;> simp [hi,hj,Nat.add_assoc]
theorem qG(g o j:Nat):(⟨g,o,none⟩:Addr).add j= ⟨g,o+j,none⟩:=by unfold Addr.add;split <;> simp_all
theorem Rows.ne_nil (h:Rows d w ok xs f) (hx:xs ≠ []):∃ u,f[0]? =some u:=by
 cases hf:f with
 | nil=>
  exfalso;have:=h.1;rw [hf] at this;have h1:=d.pos;have h2:0 < xs.length:=List.length_pos_iff.2 hx;have:=Nat.mul_pos h2 h1;simp at *;omega
 | cons u _=>exact ⟨u,rfl⟩
theorem Sl.keep {v:VL} (h:Sl d w ok v xs) (k:Kp ok w w') (hk:∀ b,b < w.heap.size->ok b->ok' b):Sl d w' ok' v xs:=by
 obtain ⟨a,c,flat,rfl,hc,hr,hm⟩:=h;refine ⟨a,c,flat,rfl,hc,hr.keep k hk,λhne=>?_⟩;obtain ⟨ad,rfl,ho,hcell⟩:=hm hne;obtain ⟨u,hu⟩:=hr.ne_nil hne;have hb:=World.block_lt_of_cell? w _ (hcell 0 u hu);rw [tD] at hb;exact ⟨ad,rfl,hk _ hb ho,λj u hu=>k.cell (by rw [tD];exact ho) (hcell j u hu)⟩
theorem Sl.nil (d:Kd α) (w:WD) (ok:Nat->Prop):Sl d w ok (.slice none 0 0) []:=⟨none,0,[],rfl,Nat.le_refl _,Rows.nil _ _ _,λh=>absurd rfl h⟩
theorem Sl.take {a:Option Addr} {n c:Nat} (h:Sl d w ok (.slice a n c) xs) (m:Nat) (hm:m <= xs.length):Sl d w ok (.slice a m c) (xs.take m):=by
 obtain ⟨a',c',flat,he,hc,hr,hcell⟩:=h;cases he;have hl:(xs.take m).length=m:=by rw [List.length_take];omega
 refine ⟨a,c,flat.take (m * d.sz),by rw [hl],by omega,hr.take m hm,λhne=>?_⟩;obtain ⟨ad,ha,ho,hx⟩:=hcell (λe=>hne (by rw [e];simp));refine ⟨ad,ha,ho,λj u hu=>hx j u ?_⟩;rw [List.getElem?_take] at hu;split at hu
 ·exact hu
 cases hu
theorem Sl.cut {a:Option Addr} {n c:Nat} (h:Sl d w ok (.slice a n c) xs) (k:Nat) (hk:k <= xs.length) :
  Sl d w ok (.slice (if c=k then a else a.map (·.add (k * d.sz))) (n - k) (c - k)) (xs.drop k):=by
 obtain ⟨a',c',flat,he,hc,hr,hcell⟩:=h;cases he;refine ⟨_,c - k,flat.drop (k * d.sz),by rw [List.length_drop],by rw [List.length_drop];omega,hr.drop k,λhne=>?_⟩;have hlt:k < xs.length:=by
  rcases Nat.lt_or_ge k xs.length with h | h
  ·exact h
  exact absurd (List.drop_eq_nil_of_le h) hne
 obtain ⟨ad,ha,ho,hx⟩:=hcell (λe=>by rw [e] at hlt;simp at hlt);subst ha;refine ⟨ad.add (k * d.sz),by rw [iN (by omega)];rfl,by rw [tD];exact ho,λj u hu=>?_⟩;rw [add_add];rw [List.getElem?_drop] at hu;exact hx _ u hu
theorem Sl.form {v:VL} (h:Sl d w ok v xs):∃ a c,v= .slice a xs.length c/\xs.length <= c:=by
 obtain ⟨a,c,flat,rfl,hc,_⟩:=h;exact ⟨a,c,rfl,hc⟩
theorem Sl.flat {v:VL} (h:Sl d w ok v xs):∃ a c flat,v= .slice a xs.length c/\Rows d w ok xs flat/\((a=none/\xs= [])∨∃ ad,a=some ad/\∀ j u,flat[j]? =some u->w.cell? (ad.add j)=some u):=by
 obtain ⟨a,c,flat,rfl,hc,hr,hm⟩:=h;refine ⟨a,c,flat,rfl,hr,?_⟩;by_cases hx:xs= []
 ·cases a with
  | none=>exact .inl ⟨rfl,hx⟩
  | some ad=>
   refine .inr ⟨ad,rfl,λj u hu=>?_⟩;have:=hr.1;rw [hx] at this;simp at this;subst this;simp at hu
 obtain ⟨ad,rfl,_,hcell⟩:=hm hx;exact .inr ⟨ad,rfl,hcell⟩
end rows

def kL{α:Type}(d:Kd α):Kd (List α) where
 sz:=1
 pos:=Nat.one_pos
 R w ok xs cs:=∃ v,cs= [v]/\Sl d w ok v xs
 len:=by rintro w ok xs cs ⟨v,rfl,_⟩;rfl
 one:=by
  rintro w ok xs cs ⟨v,rfl,h⟩ c hc;obtain ⟨a,c',rfl,_⟩:=h.form;simp at hc;subst hc;rfl
 keep:=by rintro w w' ok ok' xs cs ⟨v,rfl,h⟩ k hk;exact ⟨v,rfl,h.keep k hk⟩

/-! ### reads -/
def rSl{α:Type}(d:Kd α)(v:VL)(xs:List α):Rp:=⟨λw ok=>Sl d w ok v xs,λh k hk=>h.keep k hk⟩
/-- at an address a datum lies that is read. -/
def rAt{α:Type}(d:Kd α)(q:Addr)(x:α):Rp where
 p w ok:=ok q.block/\∃ cs,d.R w ok x cs/\∀ j u,cs[j]? =some u->w.cell? (q.add j)=some u
 keep:=by
  rintro w w' ok ok' ⟨ho,cs,hr,hc⟩ k hk;have hl:=d.len hr;have hp:=d.pos;have hb:q.block < w.heap.size:=by
   have:=World.block_lt_of_cell? w _ (hc 0 cs[0] (List.getElem?_eq_getElem (by omega)));rwa [tD] at this
  exact ⟨hk _ hb ho,cs,d.keep hr k hk,λj u hu=>k.cell (by rw [tD];exact ho) (hc j u hu)⟩
theorem Bn{α β:Type}{A:Kd α}{B:Kd β}{q:Addr}{x:α}{y:β}{w:WD}{ok:Nat->Prop}(h:(rAt (kP A B) q (x,y)).p w ok):(rAt A q x).p w ok:=by
 obtain ⟨ho,cs,⟨c1,c2,rfl,h1,h2⟩,hc⟩:=h;refine ⟨ho,c1,h1,λj u hu=>hc j u ?_⟩;have hj:j < c1.length:=by
  rcases Nat.lt_or_ge j c1.length with h | h
  ·exact h
  rw [List.getElem?_eq_none h] at hu;cases hu
 rw [List.getElem?_append_left hj];exact hu
theorem L6{α β:Type}{A:Kd α}{B:Kd β}{q:Addr}{x:α}{y:β}{w:WD}{ok:Nat->Prop}(h:(rAt (kP A B) q (x,y)).p w ok):(rAt B (q.add A.sz) y).p w ok:=by
 obtain ⟨ho,cs,⟨c1,c2,rfl,h1,h2⟩,hc⟩:=h;refine ⟨by rw [tD];exact ho,c2,h2,λj u hu=>?_⟩;rw [add_add,← A.len h1];refine hc _ u ?_;rw [List.getElem?_append_right (by omega),Nat.add_sub_cancel_left];exact hu
/-- a datum whose cells are at hand. -/
def rCs{α:Type}(d:Kd α)(cs:List VL)(x:α):Rp:=⟨λw ok=>d.R w ok x cs,λh k hk=>d.keep h k hk⟩
/-- below the world at the start nothing turns. -/
def Xi(w0:WD):Rp where
 p w ok:=Below w0.heap.size w0 w/\∀ b,b < w0.heap.size->ok b
 keep:=by
  rintro w w' ok ok' ⟨h,ho⟩ k hk;refine ⟨⟨k.os.trans h.os,k.tape.trans h.tape,k.output.trans h.output,Nat.le_trans h.size k.size,λb hb=>?_⟩,λb hb=>hk b (Nat.lt_of_lt_of_le hb h.size) (ho b hb)⟩;rw [k.block b (Nat.lt_of_lt_of_le hb h.size) (ho b hb),h.block b hb]

/-! ### objects -/
/-- block p is just these cells. -/
def Blk(p:Nat)(T:TI)(cs:List VL):Ob where
 p w own _:=own p/\w.heap[p]? =some (.cells cs.toArray T (0,0))
 keep:=by
  rintro w w' own own' ok ok' ⟨h1,h2⟩ k ho _;have hb:p < w.heap.size:=(Array.getElem?_eq_some_iff.1 h2).1;exact ⟨ho p hb h1,(k.block p hb (.inl h1)).trans h2⟩
/-- a row that is owned: appends may go on it. -/
def Row{α:Type}(e:TI)(d:Kd α)(v:VL)(xs:List α):Ob where
 p w own ok:=∃ flat,w.ownsRow 0 e d.sz v xs.length flat/\Rows d w ok xs flat/\∀ g,v.ownBlock=some g->own g
 keep:=by
  rintro w w' own own' ok ok' ⟨flat,h1,h2,h3⟩ k ho hk;refine ⟨flat,?_,h2.keep (k.mono λb _ h=>.inr h) hk,λg hg=>ho g (h1.lt g hg).2 (h3 g hg)⟩;obtain ⟨hl,hv⟩:=h1;refine ⟨hl,?_⟩;rcases hv with hv | ⟨g,cap,cur,rfl,hb,hh,r⟩
  ·exact .inl hv
  exact .inr ⟨g,cap,cur,rfl,hb,(k.block g (Array.getElem?_eq_some_iff.1 hh).1 (.inl (h3 g rfl))).trans hh,r⟩
end Go.Cb

namespace Go.Cb
open Go.RowKit

theorem bnd{α β:Type}{o:Option α}{f:α->Option β}{r:β}(h:o.bind f=some r):∃ x,o=some x/\f x=some r:=Option.bind_eq_some_iff.1 h
/-! ### what an ending says -/
def Ret(R:VL->WD->Prop):Ending->WD->Prop
 | .returned v,w=>R v w
 | _,_=>False

section
variable {P:Program} {ops:Array Oper} {Q:Exit->Act->WD->Prop} {rest:List Oper} {o:Oper} {w w':WD} {a:Act} {n:Nat} {env:List (Nat×VL)}

/-! ### guards -/
theorem wn{y:Nat->Option Bool}(h:o.guard=none):Region.wanted o y=true:=by simp [Region.wanted,h]
theorem ws(E:Env n a env){j d:Nat}{b:Bool}{oj:Oper}(hg:o.guard=some (j,b))(hj:ops[j]? =some oj)(hd:oj.dst=some d)(hl:pJ env d=some (.bool b)):Region.wanted o (yielded ops a.tmps)=true:=by
 have:=E.get d _ hl;simp [Region.wanted,hg,yielded,hj,hd,this]
theorem wf(E:Env n a env){j d:Nat}{b b':Bool}{oj:Oper}(hg:o.guard=some (j,b))(hj:ops[j]? =some oj)(hd:oj.dst=some d)(hl:pJ env d=some (.bool b'))(hb:b'= !b):Region.wanted o (yielded ops a.tmps)=false:=by
 have:=E.get d _ hl;subst hb;cases b <;> simp [Region.wanted,hg,yielded,hj,hd,this]
theorem ws'(E:Env n a env){j d:Nat}{b c:Bool}{oj:Oper}(hg:o.guard=some (j,b))(hj:ops[j]? =some oj)(hd:oj.dst=some d)(hl:pJ env d=some (.bool c))(hb:c=b):Region.wanted o (yielded ops a.tmps)=true:=by
 subst hb;exact ws E hg hj hd hl
/-! ### one operation -/
theorem K1(hw:Region.wanted o (yielded ops a.tmps)=true)(h:o.wp P a w (wpList P ops Q rest) Q):wpList P ops Q (o::rest) a w:=by
 unfold wpList;rw [iP hw];exact .inl h
theorem eS(E:Env n a env)(hw:Region.wanted o (yielded ops a.tmps)=true){d:Nat}(hd:o.dst=some d)(hdn:Nat.ble (d+1) n=true){v:VL}
  (hrun:(execOp a.eval o).run P w= .ok (.value v) w') (k:∀ a',Env n a' ((d,v)::env)->wpList P ops Q rest a' w'):wpList P ops Q (o::rest) a w:=by
 refine K1 hw ?_;unfold Oper.wp;rw [hrun];show wpList P ops Q rest (a.put o.dst v) w';rw [hd];exact k _ (E.put d hdn v)
theorem Bo(E:Env n a env)(hw:Region.wanted o (yielded ops a.tmps)=true)(hd:o.dst=none)
  (hrun:(execOp a.eval o).run P w= .ok .skip w') (k:wpList P ops Q rest a w'):wpList P ops Q (o::rest) a w:=by
 refine K1 hw ?_;unfold Oper.wp;rw [hrun];show wpList P ops Q rest (a.put o.dst undef) w';rw [hd];exact k
theorem UE(E:Env n a env)(hw:Region.wanted o (yielded ops a.tmps)=false){d:Nat}(hd:o.dst=some d)(hdn:Nat.ble (d+1) n=true)
  (k:∀ a',Env n a' ((d,undef)::env)->wpList P ops Q rest a' w):wpList P ops Q (o::rest) a w:=by
 unfold wpList;rw [iN (by rw [hw];exact Bool.false_ne_true),hd];exact k _ (E.put d hdn undef)
theorem PM(E:Env n a env)(hw:Region.wanted o (yielded ops a.tmps)=false)(hd:o.dst=none)(k:wpList P ops Q rest a w):wpList P ops Q (o::rest) a w:=by
 unfold wpList;rw [iN (by rw [hw];exact Bool.false_ne_true),hd];exact k
theorem bP(E:Env n a env)(hw:Region.wanted o (yielded ops a.tmps)=true){d:Nat}(hd:o.dst=some d)(hdn:Nat.ble (d+1) n=true){f:FuncId}{args:Array VL}{R:VL->WD->Prop}
  (hrun:(execOp a.eval o).run P w= .ok (.enter f args) w) (hc:Calls P f args w (Ret R)) (k:∀ v w',R v w'->∀ a',Env n a' ((d,v)::env)->wpList P ops Q rest a' w'):wpList P ops Q (o::rest) a w:=by
 refine K1 hw ?_;unfold Oper.wp;rw [hrun];refine hc.mono λe w' h=>?_;cases e with
 | returned v=>
  show wpList P ops Q rest (a.put o.dst v) w';rw [hd];exact k v w' h _ (E.put d hdn v)
 | panicked c=>exact h.elim
 | outgrown=>exact h.elim
end

/-! ### control -/
section
variable {P:Program} {Q:Exit->Act->WD->Prop} {a:Act} {w:WD}
theorem aN{x y:Code}(J:Act->WD->Prop)(h1:x.wp P (Exit.then J Q) a w)(h2:∀ a w,J a w->y.wp P Q a w):(Code.seq x y).wp P Q a w:=
 wS (wp_mono h1 λe a w h=>by cases e <;> first | exact h2 _ _ h | exact h)
theorem N8{n:Nat}{env:List (Nat×VL)}(E:Env n a env){c:Operand}{x y:Code}{b:Bool}(hc:opv env c=some (.bool b))(ht:b=true->x.wp P Q a w)(hf:b=false->y.wp P Q a w):(Code.cond c x y).wp P Q a w:=
 wp_cond_split (E.eval hc) ht hf
theorem aA{K:Act->WD->Prop}(h:K a w):Exit.then K Q .normal a w:=h
theorem aW{K:Act->WD->Prop}{id:Nat}(h:Q (.exit id) a w):Exit.then K Q (.exit id) a w:=h
theorem aJ{K:Act->WD->Prop}(h:Q .ret a w):Exit.then K Q .ret a w:=h
theorem Q8{K:Act->WD->Prop}{l:Nat}(h:Q (.goto l) a w):Exit.then K Q (.goto l) a w:=h
theorem bR{id:Nat}(h:Q .normal a w):Exit.inBlock id Q .normal a w:=h
theorem bM{id:Nat}(h:Q .ret a w):Exit.inBlock id Q .ret a w:=h
theorem Gz{id l:Nat}(h:Q (.goto l) a w):Exit.inBlock id Q (.goto l) a w:=h
theorem cR{id:Nat}(h:Q .normal a w):Exit.inBlock id Q (.exit id) a w:=by simpa [Exit.inBlock] using h
/-- a loop with a number that falls, which stands in no slot. -/
theorem bK{c:Code}(I:Nat->Act->WD->Prop)(k0:Nat)(h0:I k0 a w)(round:∀ k a w,I k a w->c.wp P (Exit.then (λa' w'=>∃ k',k' < k/\I k' a' w') Q) a w):(Code.loop c).wp P Q a w:=by
 intro b k cs;have key:∀ m a w,I m a w->∃ e a' w',Q e a' w'/\Arrives P (lone (b.at a (.code c::.inLoop c::k)) cs w) b k cs e a' w':=by
  intro m
  induction m using Nat.strongRecOn with
  | _ m ih=>
   intro a w hI;obtain ⟨e,a₁,w₁,hq,harr⟩:=round m a w hI b (.inLoop c::k) cs;cases e with
   | normal=>
    obtain ⟨k',hlt,hI₁⟩:=hq;obtain ⟨e₂,a₂,w₂,hq₂,harr₂⟩:=ih k' hlt a₁ w₁ hI₁;exact ⟨e₂,a₂,w₂,hq₂,.of_steps (Steps.trans harr (.one step_inLoop)) harr₂⟩
   | exit id=>exact ⟨_,a₁,w₁,hq,.pass (x:=.inLoop c) rfl (λ_ _=>.inl (by simp)) harr⟩
   | goto l=>exact ⟨_,a₁,w₁,hq,.pass (x:=.inLoop c) rfl (λ_ _=>.inl (by simp)) harr⟩
   | ret=>exact ⟨_,a₁,w₁,hq,.pass (x:=.inLoop c) rfl (λ_ _=>.inl (by simp)) harr⟩
   | panic ch=>exact ⟨_,a₁,w₁,hq,.pass (x:=.inLoop c) rfl (λ_ _=>.inl (by simp)) harr⟩
   | outgrown=>exact ⟨_,a₁,w₁,hq,.pass (x:=.inLoop c) rfl (λ_ _=>.inl (by simp)) harr⟩
 obtain ⟨e,a',w',hq,harr⟩:=key k0 a w h0;exact ⟨e,a',w',hq,.of_steps (.one step_loop) harr⟩

theorem bH{α:Type}{o:Option α}{r:α}(h:o=some r)(h0:o=none):False:=by rw [h0] at h;cases h
theorem Xj{J:Act->WD->Prop}{l:Nat}(h:J a w):Exit.jump l J Q (.goto l) a w:=⟨rfl,h⟩
theorem Nh{J:Act->WD->Prop}{l:Nat}(h:Q .ret a w):Exit.jump l J Q .ret a w:=h
theorem aD{r:Rp}{rs L:List Rp}(h:r ∈ L)(hs:∀ x,x ∈ rs->x ∈ L):∀ x,x ∈ r::rs->x ∈ L:=λx hx=>by
 cases hx with
 | head=>exact h
 | tail _ hx=>exact hs x hx
/-! ### in and out -/
def O9:Nat->List VL->List (Nat×VL)
 | _,[]=>[]
 | k,v::r=>(k,v)::O9 (k+1) r
theorem BI:∀ (l:List VL) (k:Nat),((l.zipIdx k).map λ(v,i)=>(i,v))=O9 k l
 | [],_=>rfl
 | v::r,k=>by simp [List.zipIdx_cons,O9,BI r (k+1)]
theorem enter{f:FuncId}{fn:Func}{c:Code}{args:List VL}{R:Ending->WD->Prop}{m:Nat}(hf:P.funcs[f]? =some fn)(hb:fn.body=some c)(hn:fn.ntmps=m)(hm:Nat.ble args.length m=true)
  (h:∀ a,Env m a (O9 0 args)->c.wp P (bodyPost P fn R) a w):Calls P f args.toArray w R:=by
 refine calls_of_wp hf hb ?_;rw [hn];refine h _ ?_;have:=Env.enter args m (Nat.le_of_ble_eq_true hm);rwa [BI] at this
theorem yJ{n:Nat}{env:List (Nat×VL)}{fn:Func}{R:VL->WD->Prop}(E:Env n a env)(hr:fn.results= #[])(h:R (.tuple #[]) w):bodyPost P fn (Ret R) .normal a w:=
 ⟨E.defers,_,results_none hr _ _ _,h⟩
theorem Rl{n:Nat}{env:List (Nat×VL)}{fn:Func}{R:VL->WD->Prop}(E:Env n a env)(hr:fn.results= #[])(h:R (.tuple #[]) w):bodyPost P fn (Ret R) .ret a w:=
 ⟨E.defers,_,results_none hr _ _ _,h⟩
theorem Bp{n:Nat}{env:List (Nat×VL)}{fn:Func}{R:VL->WD->Prop}(E:Env n a env){t:Tmp}(hr:fn.results= #[.tmp t]){v:VL}(hl:pJ env t=some v)(h:R v w):bodyPost P fn (Ret R) .ret a w:=
 ⟨E.defers,_,results_tmp hr _ _ _,by rw [E.getD hl];exact h⟩
theorem iW{n:Nat}{env:List (Nat×VL)}{fn:Func}{R:VL->WD->Prop}(E:Env n a env){t u:Tmp}(hr:fn.results= #[.tmp t,.tmp u]){v x:VL}(hl:pJ env t=some v)(hx:pJ env u=some x)(h:R (.tuple #[v,x]) w):bodyPost P fn (Ret R) .ret a w:=
 ⟨E.defers,_,results_tmp2 hr _ _ _,by rw [E.getD hl,E.getD hx];exact h⟩
theorem Xk{n:Nat}{env:List (Nat×VL)}{fn:Func}{R:VL->WD->Prop}(E:Env n a env){t u s:Tmp}(hr:fn.results= #[.tmp t,.tmp u,.tmp s]){v x y:VL}(hl:pJ env t=some v)(hx:pJ env u=some x)(hy:pJ env s=some y)(h:R (.tuple #[v,x,y]) w):bodyPost P fn (Ret R) .ret a w:=
 ⟨E.defers,_,results_tmp3 hr _ _ _,by rw [E.getD hl,E.getD hx,E.getD hy];exact h⟩
end
end Go.Cb

namespace Go.Cb
open Go.RowKit

def idx{α:Type}(xs:List α)(i:Int):Option α:=if 0 <= i then xs[i.toNat]? else none
def ck(p:Prop) [Decidable p]:Option Unit:=if p then some () else none
theorem UF{p:Prop} [Decidable p] {u:Unit} (h:ck p=some u):p:=by
 unfold ck at h;split at h
 ·assumption
 cases h
def PN(k:IntKind)(x y:Int):Int:=k.wrap (BitVec.ofInt k.bits x &&& BitVec.ofInt k.bits y).toNat
def ior(k:IntKind)(x y:Int):Int:=k.wrap (BitVec.ofInt k.bits x ||| BitVec.ofInt k.bits y).toNat
def PO(k:IntKind)(x y:Int):Int:=k.wrap (BitVec.ofInt k.bits x ^^^ BitVec.ofInt k.bits y).toNat
def Tw(k:IntKind)(x y:Int):Int:=k.wrap (BitVec.ofInt k.bits x &&& ~~~BitVec.ofInt k.bits y).toNat
def vB(k:IntKind)(x y:Int):Int:=x.fdiv (2 ^ (min y.toNat k.bits))
def ib(op:BinOp)(k:IntKind)(x y:Int):Option VL:=
 match op with
 | .add=>some (.int k (k.wrap (x+y)))
 | .sub=>some (.int k (k.wrap (x - y)))
 | .mul=>some (.int k (k.wrap (x * y)))
 | .eql=>some (.bool (x == y))
 | .neq=>some (.bool (x != y))
 | .lss=>some (.bool (decide (x < y)))
 | .leq=>some (.bool (decide (x <= y)))
 | .gtr=>some (.bool (decide (x > y)))
 | .geq=>some (.bool (decide (x ≥ y)))
 | .and=>some (.int k (PN k x y))
 | .or=>some (.int k (ior k x y))
 | .xor=>some (.int k (PO k x y))
 | .andNot=>some (.int k (Tw k x y))
 | _=>none
def sEq(x y:ByteArray):Bool:=x.toList == y.toList
def sLt(x y:ByteArray):Bool:=Op.bytesLess x.toList y.toList
def sb(op:BinOp)(x y:ByteArray):Option VL:=
 match op with
 | .eql=>some (.bool (sEq x y))
 | .neq=>some (.bool (!sEq x y))
 | .lss=>some (.bool (sLt x y))
 | .leq=>some (.bool (sLt x y || sEq x y))
 | .gtr=>some (.bool !(sLt x y || sEq x y))
 | .geq=>some (.bool !(sLt x y))
 | _=>none
def bytesOf(s:ByteArray):List Int:=s.data.toList.map λb=>(b.toNat:Int)

section
variable {P:Program} {o:Oper} {w:WD} {a:Act} {n:Nat} {env:List (Nat×VL)}
theorem cB(E:Env n a env){x:Operand}{v:VL}(ho:o.op= .move x)(hx:opv env x=some v):(execOp a.eval o).run P w= .ok (.value v) w:=by
 simp only [execOp,ho,E.eval hx];rfl
theorem gD(E:Env n a env){x:Operand}{v:VL}(ho:o.op= .assign x)(hx:opv env x=some v):(execOp a.eval o).run P w= .ok (.value v) w:=by
 simp only [execOp,ho,E.eval hx];rfl
theorem pI(E:Env n a env){op:BinOp}{t t':TI}{x y:Operand}{k:IntKind}{i j:Int}{v:VL}(ho:o.op= .binOp op t x y t')(hx:opv env x=some (.int k i))(hy:opv env y=some (.int k j))(hv:ib op k i j=some v):(execOp a.eval o).run P w= .ok (.value v) w:=by
 simp only [execOp,ho,E.eval hx,E.eval hy];cases op <;> simp [ib] at hv <;> subst hv <;> simp [eqGuard,binOp,Op.intArith,Op.intCmp,Op.intBits,Sem.run_bind,PN,ior,PO,Tw]
theorem Ii(E:Env n a env){t t':TI}{x y:Operand}{k k':IntKind}{i j:Int}(ho:o.op= .binOp .shr t x y t')(hx:opv env x=some (.int k i))(hy:opv env y=some (.int k' j))(hj:0 <= j):(execOp a.eval o).run P w= .ok (.value (.int k (vB k i j))) w:=by
 simp only [execOp,ho,E.eval hx,E.eval hy];simp [eqGuard,binOp,Op.shift,Sem.run_bind,vB,Int.not_lt.2 hj]
theorem UG(E:Env n a env){op:BinOp}{t t':TI}{x y:Operand}{i j:ByteArray}{v:VL}(ho:o.op= .binOp op t x y t')(hx:opv env x=some (.string i))(hy:opv env y=some (.string j))(hv:sb op i j=some v):(execOp a.eval o).run P w= .ok (.value v) w:=by
 simp only [execOp,ho,E.eval hx,E.eval hy];cases op <;> simp [sb] at hv <;> subst hv <;> simp [eqGuard,binOp,Op.stringOp,Sem.run_bind,sEq,sLt]
theorem Rm(E:Env n a env){t t':TI}{x y:Operand}{i j:ByteArray}(ho:o.op= .binOp .add t x y t')(hx:opv env x=some (.string i))(hy:opv env y=some (.string j))(hl:i.size+j.size <= 4611686018427387904):(execOp a.eval o).run P w= .ok (.value (.string (i ++ j))) w:=by
 simp only [execOp,ho,E.eval hx,E.eval hy];have h:¬ (((i.size+j.size:Nat):Int) > IntKind.i64.max):=by
  have:IntKind.i64.max=9223372036854775807:=by decide
  omega
 simp [eqGuard,binOp,Op.stringOp,Sem.run_bind];omega
theorem KU(E:Env n a env){t:TI}{x:Operand}{b:Bool}(ho:o.op= .unOp .not t x)(hx:opv env x=some (.bool b)):(execOp a.eval o).run P w= .ok (.value (.bool !b)) w:=by
 simp only [execOp,ho,E.eval hx];rfl
theorem BJ(E:Env n a env){c x y:Operand}{b:Bool}{v:VL}(ho:o.op= .pick c x y)(hc:opv env c=some (.bool b))(hb:b=true)(hx:opv env x=some v):(execOp a.eval o).run P w= .ok (.value v) w:=by
 subst hb;simp only [execOp,ho,E.eval hc,E.eval hx];rfl
theorem BK(E:Env n a env){c x y:Operand}{b:Bool}{v:VL}(ho:o.op= .pick c x y)(hc:opv env c=some (.bool b))(hb:b=false)(hx:opv env y=some v):(execOp a.eval o).run P w= .ok (.value v) w:=by
 subst hb;simp only [execOp,ho,E.eval hc,E.eval hx];rfl
theorem I7(E:Env n a env){x:Operand}{q:Addr}(ho:o.op= .nilCheck x)(hx:opv env x=some (.pointer (some q))):(execOp a.eval o).run P w= .ok (.value (.pointer (some q))) w:=by
 simp only [execOp,ho,E.eval hx];rfl
theorem KV(E:Env n a env){x:Operand}{i:Nat}{vs:Array VL}{v:VL}(ho:o.op= .extract x i)(hx:opv env x=some (.tuple vs))(hv:vs[i]? =some v):(execOp a.eval o).run P w= .ok (.value v) w:=by
 simp only [execOp,ho,E.eval hx];simp [Instr.extract,Sem.run_bind,hv]
theorem LO(E:Env n a env){x:Operand}{T:TI}{i:Nat}{v u:VL}(ho:o.op= .field T x i)(hx:opv env x=some u)(hr:(Instr.field T u i).run P w= .ok v w):(execOp a.eval o).run P w= .ok (.value v) w:=by
 simp only [execOp,ho,E.eval hx];simp [Sem.run_bind,hr]
theorem pK(E:Env n a env){x:Operand}{T:TI}{i:Nat}{v u:VL}(ho:o.op= .fieldAddr T x i)(hx:opv env x=some u)(hr:(Instr.fieldAt T u i).run P w= .ok v w):(execOp a.eval o).run P w= .ok (.value v) w:=by
 simp only [execOp,ho,E.eval hx];simp [Sem.run_bind,hr]
theorem Ha(E:Env n a env){x:Operand}{s t:TI}{v u:VL}(ho:o.op= .convert s t x)(hx:opv env x=some u)(hr:(convert s t u).run P w= .ok v w):(execOp a.eval o).run P w= .ok (.value v) w:=by
 simp only [execOp,ho,E.eval hx];simp [Sem.run_bind,hr]
theorem yR(E:Env n a env){op:BinOp}{t t':TI}{x y:Operand}{u1 u2 v:VL}(ho:o.op= .binOp op t x y t')(hx:opv env x=some u1)(hy:opv env y=some u2)(hr:(do eqGuard op t x y u1 u2;binOp op t u1 u2:Sem VL).run P w= .ok v w):(execOp a.eval o).run P w= .ok (.value v) w:=by
 simp only [execOp,ho,E.eval hx,E.eval hy];rw [Sem.run_bind,hr];rfl
theorem cP(E:Env n a env){T:TI}{ps:List (Nat×Operand)}{vs:List (Nat×VL)}{v:VL}(ho:o.op= .build T ps.toArray)(hx:ps.map (λp=>(p.1,a.eval p.2))=vs)(hr:(Instr.build T vs.toArray).run P w= .ok v w):(execOp a.eval o).run P w= .ok (.value v) w:=by
 have:(ps.toArray.map λp=>(p.1,a.eval p.2))=vs.toArray:=by rw [List.map_toArray,hx]
 simp only [execOp,ho];simp [Sem.run_bind];simp at this;rw [this,hr];rfl
theorem oP(E:Env n a env){fn:Fn}{fs cs:List Operand}{us vs:List VL}(ho:o.op= .makeFunc fn fs.toArray cs.toArray)(h1:Ai env fs=some us)(h2:Ai env cs=some vs):(execOp a.eval o).run P w= .ok (.value (.func fn us.toArray vs.toArray)) w:=by
 simp only [execOp,ho,E.evals h1,E.evals h2];rfl
theorem Kv(E:Env n a env){t:TI}{x i:Operand}{k:IntKind}{j:Int}{s:ByteArray}{c:UInt8}(ho:o.op= .index t x i)(hx:opv env x=some (.string s))(hi:opv env i=some (.int k j))(ht:P.underlying t=some .string)(hc:idx s.data.toList j=some c):(execOp a.eval o).run P w= .ok (.value (.int .u8 (c.toNat:Int))) w:=by
 simp only [execOp,ho,E.eval hx,E.eval hi];unfold idx at hc;split at hc
 ·rename_i h0;have h1:s[j.toNat]? =some c:=by
   have:s.data[j.toNat]? =some c:=by simpa using hc
   rw [← this];rfl
  simp [Sem.run_bind,Instr.index,asIntOf,run_underlying ht,h0,h1]
 cases hc
theorem HX(E:Env n a env){t:TI}{x:Operand}{s:ByteArray}(ho:o.op= .call { callee:=.builtin .len,args:=#[x],argTypes:=#[t] })(hx:opv env x=some (.string s))(ht:P.underlying t=some .string):(execOp a.eval o).run P w= .ok (.value (.int .i64 (s.size:Int))) w:=by
 simp only [execOp,ho];simp [Sem.run_bind,resolve,invoke,builtin,E.eval hx,Builtin.len_,run_underlying ht,goInt]
theorem Rn(E:Env n a env){t:TI}{x y:Operand}{k:IntKind}{i j:Int}{ts:Array TI}(ho:o.op= .call { callee:=.builtin .min,args:=#[x,y],argTypes:=ts })(hx:opv env x=some (.int k i))(hy:opv env y=some (.int k j)):(execOp a.eval o).run P w= .ok (.value (.int k (min i j))) w:=by
 have:min i j=if j < i then j else i:=by
  rw [Int.min_def];split <;> split <;> omega
 rw [this];simp only [execOp,ho];simp [Sem.run_bind,resolve,invoke,builtin,E.eval hx,E.eval hy,Builtin.min_,Builtin.min2]
theorem UH(E:Env n a env){t:TI}{x y:Operand}{k:IntKind}{i j:Int}{ts:Array TI}(ho:o.op= .call { callee:=.builtin .max,args:=#[x,y],argTypes:=ts })(hx:opv env x=some (.int k i))(hy:opv env y=some (.int k j)):(execOp a.eval o).run P w= .ok (.value (.int k (max i j))) w:=by
 simp only [execOp,ho];simp [Sem.run_bind,resolve,invoke,builtin,E.eval hx,E.eval hy,Builtin.max_,Builtin.max2];rw [Int.max_def];split <;> split <;> omega
theorem Aj{f:FuncId}{fn:Func}(h:P.funcs[f]? =some fn)(hb:fn.body.isNone=false)(hn:(fn.name == "runtime.NumGoroutine")=false)(args:Array VL):(callFunc f args).run P w= .ok (.enter f args) w:=by
 simp only [callFunc,Sem.run_bind];simp [program,Sem.run,h,hb,hn,Result.andThen]
theorem Ct(E:Env n a env){f:FuncId}{xs:List Operand}{ts:Array TI}{vs:List VL}(ho:o.op= .call { callee:=.value (.func f),args:=xs.toArray,argTypes:=ts })(hx:Ai env xs=some vs)
  (hcf:∀ args,(callFunc f args).run P w= .ok (.enter f args) w):(execOp a.eval o).run P w= .ok (.enter f vs.toArray) w:=by
 have hE:=E.evals hx;simp only [execOp,ho];simp only [resolve,hE,Sem.run_bind];simp [Act.eval,Deferred.ofValue,invoke,hcf,Result.andThen,Sem.run]
theorem bT(E:Env n a env){t:Operand}{f:FuncId}{fs cs:List VL}{xs:List Operand}{ts:Array TI}{vs:List VL}(ho:o.op= .call { callee:=.value t,args:=xs.toArray,argTypes:=ts })(hf:opv env t=some (.func (.func f) fs.toArray cs.toArray))(hx:Ai env xs=some vs)
  (hcf:∀ args,(callFunc f args).run P w= .ok (.enter f args) w):(execOp a.eval o).run P w= .ok (.enter f (fs ++ vs ++ cs).toArray) w:=by
 have hE:=E.evals hx;simp only [execOp,ho];simp only [resolve,hE,Sem.run_bind,E.eval hf];simp [Deferred.ofValue,invoke,hcf,Result.andThen,Sem.run]
end
end Go.Cb

namespace Go.Cb
open Go.RowKit

def dM:TypeDesc->Bool
 | .struct _ | .array _ _=>false
 | _=>true
def cE(cs:List VL):Nat->List VL->List VL
 | _,[]=>cs
 | j,u::us=>cE (cs.set j u) (j+1) us

section
variable {P:Program} {w w':WD} {os:List Ob} {rs:List Rp}
theorem Pe{t:TI}{d:TypeDesc}(hu:P.underlying t=some d)(hp:dM d=true)(w:WD):(isAgg t).run P w= .ok false w:=by
 unfold isAgg;rw [Sem.run_bind,run_underlying hu w];cases d <;> simp_all [dM]
theorem Va{t:TI}{d:TypeDesc}(hu:P.underlying t=some d)(hp:dM d=false)(w:WD):(isAgg t).run P w= .ok true w:=by
 unfold isAgg;rw [Sem.run_bind,run_underlying hu w];cases d <;> simp_all [dM]
theorem jN{t:TI}{m:Nat}(h:(P.info? t).map (·.size)=some m)(w:WD):(sizeOf t).run P w= .ok m w:=by
 cases hq:P.info? t with
 | none=>simp [hq] at h
 | some i=>
  have:i.size=m:=by simpa [hq] using h
  simp [sizeOf,typeInfo,Sem.run_bind,hq,this]
theorem Q9{t:TI}{d:TypeDesc}(hu:P.underlying t=some d)(hp:dM d=true){q:Addr}{v:VL}(hc:w.cell? q=some v):(Instr.loadAt t (.pointer (some q))).run P w= .ok v w:=by
 simp [Instr.loadAt,Instr.sureAddr,loadVar,Sem.run_bind,Pe hu hp,load,Sem.run,hc]
theorem Bq{t:TI}{d:TypeDesc}(hu:P.underlying t=some d)(hp:dM d=false){q:Addr}{cs:List VL}(hs:(P.info? t).map (·.size)=some cs.length)(hc:∀ j u,cs[j]? =some u->w.cell? (q.add j)=some u):(Instr.loadAt t (.pointer (some q))).run P w= .ok (.agg cs.toArray) w:=by
 simp [Instr.loadAt,Instr.sureAddr,loadVar,Sem.run_bind,Va hu hp,jN hs,run_loadCells_list (P:=P) w q cs hc]

theorem Sep.blk (H:Sep w os rs) {i p:Nat} {T:TI} {cs:List VL} (hi:os[i]? =some (Blk p T cs)):w.heap[p]? =some (.cells cs.toArray T (0,0)):=by
 obtain ⟨_,_,h⟩:=H.ob i hi;exact h.2
theorem Sep.blk_cell (H:Sep w os rs) {i p:Nat} {T:TI} {cs:List VL} (hi:os[i]? =some (Blk p T cs)) {j:Nat} {v:VL} (hj:cs[j]? =some v):w.cell? ⟨p,j,none⟩=some v:=by
 rw [cell_of_row w p j _ T _ (H.blk hi)];simpa using hj
/-- a store of some cells into a block. -/
theorem Sep.store (P:Program):∀ (us:List VL) {w:WD} {os:List Ob} {rs:List Rp} (H:Sep w os rs) {i p:Nat} {T:TI} {cs:List VL} (hi:os[i]? =some (Blk p T cs)) (j k:Nat) (_:j+k+us.length <= cs.length) (_:∀ u ∈ us,u.oneCell'=true),
  ∃ w',(storeCells ⟨p,j,none⟩ us k).run P w= .ok () w'/\Sep w' (os.set i (Blk p T (cE cs (j+k) us))) rs
 | [],w,os,rs,H,i,p,T,cs,hi,j,k,_,_=>by
  refine ⟨w,rfl,?_⟩;have:os.set i (Blk p T (cE cs (j+k) []))=os:=by
   apply List.ext_getElem?;intro q;by_cases e:i=q
   ·subst e;rw [List.getElem?_set_self (by rcases Nat.lt_or_ge i os.length with h | h;exact h;rw [List.getElem?_eq_none h] at hi;cases hi),hi];rfl
   rw [List.getElem?_set_ne e]
  rw [this];exact H
 | u::us,w,os,rs,H,i,p,T,cs,hi,j,k,hl,h1=>by
  have hil:i < os.length:=by
   rcases Nat.lt_or_ge i os.length with h | h
   ·exact h
   rw [List.getElem?_eq_none h] at hi;cases hi
  simp at hl;have hb:=H.blk hi;have hpl:p < w.heap.size:=(Array.getElem?_eq_some_iff.1 hb).1;have hcell:w.cell? ⟨p,j+k,none⟩=some (cs[j+k]'(by omega)):=H.blk_cell hi (List.getElem?_eq_getElem (by omega));have hfr:w.frozen? ⟨p,j+k,none⟩=false:=by simp [World.frozen?,hb]
  have H1:Sep (w.setCell ⟨p,j+k,none⟩ u) (os.set i (Blk p T (cs.set (j+k) u))) rs:=by
   refine H.upd i hi λown ok _ ho=>⟨(Kp.setCell w ⟨p,j+k,none⟩ u).mono λb _ hb e=>hb (by rw [e];exact ho.1),.inl ho.1,?_⟩
   have:=ho.2;simp only [World.setCell,Array.getElem?_modify,iP rfl,this,Option.map_some];simp
  obtain ⟨w',hr,H2⟩:=Sep.store P us H1 (i:=i) (p:=p) (T:=T) (cs:=cs.set (j+k) u) (by rw [List.getElem?_set_self hil]) j (k+1) (by simp;omega) (λx hx=>h1 x (.tail _ hx));refine ⟨w',?_,?_⟩
  ·have hadd:(⟨p,j,none⟩:Addr).add k= ⟨p,j+k,none⟩:=qG p j k;simp only [storeCells,Sem.run_bind,hadd];rw [run_store P w _ u _ (h1 u (.head _)),hcell];simp only [hfr];simpa [Result.andThen] using hr
  rw [List.set_set] at H2;exact H2
end

section
variable {P:Program} {ops:Array Oper} {Q:Exit->Act->WD->Prop} {rest:List Oper} {o:Oper} {w:WD} {a:Act} {n:Nat} {env:List (Nat×VL)} {os:List Ob} {rs:List Rp}

/-! ### loads -/
theorem kT(E:Env n a env){x:Operand}{t:TI}{u v:VL}(ho:o.op= .load t x)(hx:opv env x=some u)(hr:(Instr.loadAt t u).run P w= .ok v w):(execOp a.eval o).run P w= .ok (.value v) w:=by
 simp only [execOp,ho,E.eval hx];simp [Sem.run_bind,hr]
theorem KW(E:Env n a env)(H:Sep w os rs){x:Operand}{t:TI}{i p j:Nat}{T:TI}{cs:List VL}{v:VL}{d:TypeDesc}(ho:o.op= .load t x)(hx:opv env x=some (.pointer (some ⟨p,j,none⟩)))
  (hi:os[i]? =some (Blk p T cs)) (hj:cs[j]? =some v) (hu:P.underlying t=some d) (hp:dM d=true):(execOp a.eval o).run P w= .ok (.value v) w:=
 kT E ho hx (Q9 hu hp (H.blk_cell hi hj))
theorem zN(E:Env n a env)(H:Sep w os rs){x:Operand}{t:TI}{i p j:Nat}{T:TI}{cs us:List VL}{d:TypeDesc}(ho:o.op= .load t x)(hx:opv env x=some (.pointer (some ⟨p,j,none⟩)))
  (hi:os[i]? =some (Blk p T cs)) (hj:(cs.drop j).take us.length=us) (hu:P.underlying t=some d) (hp:dM d=false) (hs:(P.info? t).map (·.size)=some us.length):(execOp a.eval o).run P w= .ok (.value (.agg us.toArray)) w:=by
 refine kT E ho hx (Bq hu hp hs λk u hk=>?_);rw [qG];refine H.blk_cell hi ?_;rw [← hj,List.getElem?_take] at hk;split at hk
 ·rw [List.getElem?_drop] at hk;exact hk
 cases hk
theorem rI(E:Env n a env)(H:Sep w os rs){α:Type}{f:α->VL}{h:∀ x,(f x).oneCell'=true}{x:Operand}{t:TI}{q:Addr}{y:α}{d:TypeDesc}(ho:o.op= .load t x)(hx:opv env x=some (.pointer (some q)))
  (hm:rAt (Kd.scalar f h) q y ∈ rs) (hu:P.underlying t=some d) (hp:dM d=true):(execOp a.eval o).run P w= .ok (.value (f y)) w:=by
 obtain ⟨ok,_,cs,hcs,hc⟩:=H.rd hm;have hcs':cs= [f y]:=hcs;subst hcs';exact kT E ho hx (Q9 hu hp (by have:=hc 0 (f y) rfl;rwa [show q.add 0=q from by simp [Addr.add]] at this))
theorem PP(E:Env n a env)(H:Sep w os rs)(hw:Region.wanted o (yielded ops a.tmps)=true){dd:Nat}(hd:o.dst=some dd)(hdn:Nat.ble (dd+1) n=true){α:Type}{d:Kd α}{x:Operand}{t:TI}{q:Addr}{ys:List α}{ds:TypeDesc}(ho:o.op= .load t x)(hx:opv env x=some (.pointer (some q)))
  (hm:rAt (kL d) q ys ∈ rs) (hu:P.underlying t=some ds) (hp:dM ds=true)
  (k:∀ v a',Sep w os (rSl d v ys::rs)->Env n a' ((dd,v)::env)->wpList P ops Q rest a' w):wpList P ops Q (o::rest) a w:=by
 obtain ⟨col,h1,h2⟩:=H;obtain ⟨_,cs,⟨v,rfl,hv⟩,hc⟩:=h2 _ hm;have hcell:w.cell? q=some v:=by have:=hc 0 v rfl;rwa [show q.add 0=q from by simp [Addr.add]] at this
 refine eS E hw hd hdn (kT E ho hx (Q9 hu hp hcell)) λa' E'=>k v a' ⟨col,h1,λr hr=>?_⟩ E';cases hr with
 | head=>exact hv
 | tail _ hr=>exact h2 r hr
theorem Cu(E:Env n a env)(H:Sep w os rs)(hw:Region.wanted o (yielded ops a.tmps)=true){dd:Nat}(hd:o.dst=some dd)(hdn:Nat.ble (dd+1) n=true){α:Type}{d:Kd α}{x:Operand}{t:TI}{q:Addr}{y:α}{ds:TypeDesc}(ho:o.op= .load t x)(hx:opv env x=some (.pointer (some q)))
  (hm:rAt d q y ∈ rs) (hu:P.underlying t=some ds) (hp:dM ds=false) (hs:(P.info? t).map (·.size)=some d.sz)
  (k:∀ cs a',Sep w os (rCs d cs y::rs)->Env n a' ((dd,.agg cs.toArray)::env)->wpList P ops Q rest a' w):wpList P ops Q (o::rest) a w:=by
 obtain ⟨col,h1,h2⟩:=H;obtain ⟨_,cs,hcs,hc⟩:=h2 _ hm;refine eS E hw hd hdn (kT E ho hx (Bq hu hp (by rw [hs,d.len hcs]) hc)) λa' E'=>k cs a' ⟨col,h1,λr hr=>?_⟩ E';cases hr with
 | head=>exact hcs
 | tail _ hr=>exact h2 r hr

/-! ### an element's address -/
theorem LP{t e:TI}{α:Type}{d:Kd α}{ok:Nat->Prop}{v:VL}{xs:List α}{k:IntKind}{j:Int}{y:α}(h:Sl d w ok v xs)(ht:P.underlying t=some (.slice e))(hs:(P.info? e).map (·.size)=some d.sz)(hj:idx xs j=some y) :
  ∃ q,(Instr.indexAt t v (.int k j)).run P w= .ok (.pointer (some q)) w/\ok q.block/\∃ cs,d.R w ok y cs/\∀ i u,cs[i]? =some u->w.cell? (q.add i)=some u:=by
 obtain ⟨ad,c,flat,rfl,hc,hr,hm⟩:=h;unfold idx at hj;split at hj
 ·rename_i h0;have hlt:j.toNat < xs.length:=by
   rcases Nat.lt_or_ge j.toNat xs.length with h | h
   ·exact h
   rw [List.getElem?_eq_none h] at hj;cases hj
  obtain ⟨b,rfl,hok,hcell⟩:=hm (λe=>by rw [e] at hlt;simp at hlt);obtain ⟨cs,hcs,hcc⟩:=hr.cell hj;refine ⟨b.add (j.toNat * d.sz),?_,by rw [tD];exact hok,cs,hcs,λi u hu=>by rw [add_add];exact hcell _ u (hcc i u hu)⟩;have hlt':j < (xs.length:Int):=by omega
  simp [Instr.indexAt,asIntOf,Sem.run_bind,run_underlying ht,jN hs,h0,hlt']
 cases hj
theorem dH(E:Env n a env)(H:Sep w os rs)(hw:Region.wanted o (yielded ops a.tmps)=true){dd:Nat}(hd:o.dst=some dd)(hdn:Nat.ble (dd+1) n=true){α:Type}{d:Kd α}{x i:Operand}{t e:TI}{v:VL}{xs:List α}{kk:IntKind}{j:Int}{y:α}(ho:o.op= .indexAddr t x i)(hx:opv env x=some v)(hi:opv env i=some (.int kk j))
  (hm:rSl d v xs ∈ rs) (ht:P.underlying t=some (.slice e)) (hs:(P.info? e).map (·.size)=some d.sz) (hj:idx xs j=some y)
  (k:∀ q a',Sep w os (rAt d q y::rs)->Env n a' ((dd,.pointer (some q))::env)->wpList P ops Q rest a' w):wpList P ops Q (o::rest) a w:=by
 obtain ⟨col,h1,h2⟩:=H;obtain ⟨q,hr,hq⟩:=LP (P:=P) (k:=kk) (h2 _ hm) ht hs hj;refine eS E hw hd hdn (v:=.pointer (some q)) ?_ λa' E'=>k q a' ⟨col,h1,λr hr=>?_⟩ E'
 ·simp only [execOp,ho,E.eval hx,E.eval hi];simp [Sem.run_bind,hr]
 ·cases hr with
  | head=>exact hq
  | tail _ hr=>exact h2 r hr

/-! ### lengths -/
theorem P3(E:Env n a env){t e:TI}{x:Operand}{b:Option Addr}{m c:Nat}(ho:o.op= .call { callee:=.builtin .len,args:=#[x],argTypes:=#[t] })(hx:opv env x=some (.slice b m c))(ht:P.underlying t=some (.slice e)):(execOp a.eval o).run P w= .ok (.value (.int .i64 (m:Int))) w:=by
 simp only [execOp,ho];simp [Sem.run_bind,resolve,invoke,builtin,E.eval hx,Builtin.len_,run_underlying ht,goInt]
theorem vJ(E:Env n a env)(H:Sep w os rs){α:Type}{d:Kd α}{t e:TI}{x:Operand}{v:VL}{xs:List α}(ho:o.op= .call { callee:=.builtin .len,args:=#[x],argTypes:=#[t] })(hx:opv env x=some v)(hm:rSl d v xs ∈ rs)(ht:P.underlying t=some (.slice e)):(execOp a.eval o).run P w= .ok (.value (.int .i64 (xs.length:Int))) w:=by
 obtain ⟨ok,h⟩:=H.rd hm;obtain ⟨b,c,rfl,_⟩:=Sl.form h;exact P3 E ho hx ht
theorem Xl{e:TI}{s:Nat}{base:Nat}{v:VL}{m:Nat}{f:List VL}(h:w.ownsRow base e s v m f):∃ b c,v= .slice b m c:=by
 rcases h.2 with ⟨rfl,rfl⟩ | ⟨g,cap,cur,rfl,_⟩
 ·exact ⟨none,0,rfl⟩
 exact ⟨_,cap,rfl⟩
theorem lF(E:Env n a env)(H:Sep w os rs){α:Type}{d:Kd α}{i:Nat}{t e e':TI}{x:Operand}{v:VL}{xs:List α}(ho:o.op= .call { callee:=.builtin .len,args:=#[x],argTypes:=#[t] })(hx:opv env x=some v)(hi:os[i]? =some (Row e' d v xs))(ht:P.underlying t=some (.slice e)):(execOp a.eval o).run P w= .ok (.value (.int .i64 (xs.length:Int))) w:=by
 obtain ⟨_,_,flat,h,_⟩:=H.ob i hi;obtain ⟨b,c,rfl⟩:=Xl h;exact P3 E ho hx ht

/-! ### new blocks -/
theorem Sep.newBlk (H:Sep w os rs) (T:TI) (cs:List VL):Sep (w.alloc (.cells cs.toArray T)) (Blk w.heap.size T cs::os) rs:=
 H.new (Kp.alloc _ w _) λok _=>⟨Nat.le_refl _,heap_alloc_new w _⟩
theorem PQ(E:Env n a env)(H:Sep w os rs)(hw:Region.wanted o (yielded ops a.tmps)=true){dd:Nat}(hd:o.dst=some dd)(hdn:Nat.ble (dd+1) n=true){x:Operand}{T:TI}{v:VL}{cs:List VL}(ho:o.op= .box T x)(hx:opv env x=some v)(hv:v.cells=cs.toArray)
  (k:∀ p w' a',Sep w' (Blk p T cs::os) rs->Env n a' ((dd,.pointer (some ⟨p,0,none⟩))::env)->wpList P ops Q rest a' w'):wpList P ops Q (o::rest) a w:=by
 refine eS E hw hd hdn (v:=.pointer (some ⟨w.heap.size,0,none⟩)) (w':=w.alloc (.cells cs.toArray T)) ?_ λa' E'=>k _ _ a' (H.newBlk T cs) E';simp only [execOp,ho,E.eval hx];simp [Sem.run_bind,Instr.box,newVar,newRow,newObj,Sem.run,hv,Result.andThen]
theorem Xm(E:Env n a env)(H:Sep w os rs)(hw:Region.wanted o (yielded ops a.tmps)=true){dd:Nat}(hd:o.dst=some dd)(hdn:Nat.ble (dd+1) n=true){T:TI}{z:VL}{cs:List VL}(ho:o.op= .alloc T)(hz:(P.info? T).bind (·.zero)=some z)(hv:z.cells=cs.toArray)
  (k:∀ p w' a',Sep w' (Blk p T cs::os) rs->Env n a' ((dd,.pointer (some ⟨p,0,none⟩))::env)->wpList P ops Q rest a' w'):wpList P ops Q (o::rest) a w:=by
 refine eS E hw hd hdn (v:=.pointer (some ⟨w.heap.size,0,none⟩)) (w':=w.alloc (.cells cs.toArray T)) ?_ λa' E'=>k _ _ a' (H.newBlk T cs) E';obtain ⟨i,hi,hzz⟩:=Option.bind_eq_some_iff.1 hz;have hzv:(zeroValue T).run P w= .ok z w:=by simp [zeroValue,typeInfo,Sem.run_bind,hi,hzz]
 simp only [execOp,ho];simp [Sem.run_bind,Instr.alloc,hzv,newVar,newRow,newObj,Sem.run,hv,Result.andThen]

/-! ### stores -/
theorem Ro(E:Env n a env)(H:Sep w os rs)(hw:Region.wanted o (yielded ops a.tmps)=true)(hd:o.dst=none){x y:Operand}{t:TI}{i p j:Nat}{T:TI}{cs us:List VL}{v:VL}(ho:o.op= .store t x y)(hx:opv env x=some (.pointer (some ⟨p,j,none⟩)))(hy:opv env y=some v)(hv:v.cells=us.toArray)
  (hi:os[i]? =some (Blk p T cs)) (hs:(P.info? t).map (·.size)=some us.length) (hl:Nat.ble (j+us.length) cs.length=true) (h1:us.all (·.oneCell')=true)
  (k:∀ w',Sep w' (os.set i (Blk p T (cE cs j us))) rs->wpList P ops Q rest a w'):wpList P ops Q (o::rest) a w:=by
 obtain ⟨w',hr,H'⟩:=Sep.store P us H hi j 0 (by have:=Nat.le_of_ble_eq_true hl;omega) (by simpa using h1);refine Bo E hw hd (w':=w') ?_ (k w' H');simp only [execOp,ho,E.eval hx,E.eval hy];simp [Sem.run_bind,Instr.storeAt,Instr.sureAddr,storeVar,jN hs,hv,hr]
end
end Go.Cb

namespace Go.Cb
open Go.RowKit Go.Lib

/-- no list that is made is longer. -/
def LIM:Nat:=274877906944

section
variable {P:Program} {w w':WD} {os:List Ob} {rs:List Rp}
end

section
variable {P:Program} {ops:Array Oper} {Q:Exit->Act->WD->Prop} {rest:List Oper} {o:Oper} {w:WD} {a:Act} {n:Nat} {env:List (Nat×VL)} {os:List Ob} {rs:List Rp}

theorem Sep.nilRow (H:Sep w os rs) {α:Type} (e:TI) (d:Kd α):Sep w (Row e d (.slice none 0 0) []::os) rs:=
 H.new (Kp.refl _ w) λok _=>⟨[],World.ownsRow_nil _ _ _ _,Rows.nil _ _ _,λg hg=>by simp [Value.ownBlock] at hg⟩
theorem Sep.nilSl (H:Sep w os rs) {α:Type} (d:Kd α):Sep w os (rSl d (.slice none 0 0) ([]:List α)::rs):=
 H.derive _ λok _=>Sl.nil d w ok
theorem PR{α:Type}{d:Kd α}{e:TI}{v:VL}{xs:List α}{flat:List VL}{ok:Nat->Prop}(h:w.ownsRow 0 e d.sz v xs.length flat)(hr:Rows d w ok xs flat)(hk:∀ g,v.ownBlock=some g->ok g):Sl d w ok v xs:=by
 rcases h.2 with ⟨rfl,h0⟩ | ⟨g,cap,cur,rfl,hb,hh,hc,_⟩
 ·have:xs= []:=List.eq_nil_of_length_eq_zero h0;subst this;exact Sl.nil d w ok
 exact ⟨_,cap,flat,rfl,hc,hr,λ_=>⟨_,rfl,hk g rfl,h.cells (g:=g) rfl⟩⟩
theorem Sep.thaw (H:Sep w os rs) {α:Type} {i:Nat} {e:TI} {d:Kd α} {v:VL} {xs:List α} (hi:os[i]? =some (Row e d v xs)):Sep w (os.eraseIdx i) (rSl d v xs::rs):=
 H.freeze i hi (rSl d v xs) λown ok ⟨flat,h1,h2,h3⟩=>PR h1 (h2.keep (Kp.refl _ _) λb _ hb=>.inr hb) λg hg=>.inl (h3 g hg)

theorem Sep.slform (H:Sep w os rs) {α:Type} {d:Kd α} {v:VL} {xs:List α} (hm:rSl d v xs ∈ rs):∃ b c,v= .slice b xs.length c:=by
 obtain ⟨ok,h⟩:=H.rd hm;obtain ⟨b,c,e,_⟩:=Sl.form h;exact ⟨b,c,e⟩
theorem Sep.rowform (H:Sep w os rs) {α:Type} {i:Nat} {e:TI} {d:Kd α} {v:VL} {xs:List α} (hi:os[i]? =some (Row e d v xs)):∃ b c,v= .slice b xs.length c:=by
 obtain ⟨_,_,flat,h,_⟩:=H.ob i hi;exact Xl h
/-- where what is appended comes from: a slice that is read, or another row that is owned. -/
def Src{α:Type}(w:WD)(os:List Ob)(rs:List Rp)(d:Kd α)(u:VL)(ys:List α):Prop:=
 ∀ col:Nat->Nat,(∀ (i:Nat) (o:Ob),os[i]? =some o->o.p w (λb=>col b=i+1) (λb=>col b=0))->(∀ r:Rp,r ∈ rs->r.p w (λb=>col b=0))->
  ∃ b c fl,u= .slice b ys.length c/\Rows d w (λb=>col b=0) ys fl/\((b=none/\ys= [])∨∃ ad,b=some ad/\∀ j u,fl[j]? =some u->w.cell? (ad.add j)=some u)
theorem qS{α:Type}{d:Kd α}{u:VL}{ys:List α}(hm:rSl d u ys ∈ rs):Src w os rs d u ys:=λcol h1 h2=>Sl.flat (h2 _ hm)
theorem Ni{α:Type}{i:Nat}{e:TI}{d:Kd α}{u:VL}{ys:List α}(hi:os[i]? =some (Row e d u ys)):Src w os rs d u ys:=λcol h1 h2=>by
 obtain ⟨flat,hown,hrows,_⟩:=h1 i _ hi;rcases hown.2 with ⟨rfl,h0⟩ | ⟨g,cap,cur,rfl,_⟩
 ·have:ys= []:=List.eq_nil_of_length_eq_zero h0;subst this;exact ⟨none,0,flat,rfl,hrows,.inl ⟨rfl,rfl⟩⟩
 exact ⟨_,cap,flat,rfl,hrows,.inr ⟨_,rfl,hown.cells (g:=g) rfl⟩⟩
/-- append(v, ys...): v owned. -/
theorem AO{α:Type}(H:Sep w os rs){i:Nat}{t ty e:TI}{d:Kd α}{z:VL}{bytes:Nat}{v u:VL}{xs ys:List α}(hi:os[i]? =some (Row e d v xs))(hm:Src w os rs d u ys)
  (ht:P.underlying t=some (.slice e)) (hinfo:(P.info? e).map (λi=>(i.zero,i.size,i.bytes))=some (some z,d.sz,bytes)) (hz:z.cells.size=d.sz) (hlim:xs.length+ys.length <= LIM) (hby:Nat.ble bytes 512=true) :
  ∃ v' w',(Builtin.append_ #[t,t] ty #[v,u]).run P w= .ok v' w'/\Sep w' (os.set i (Row e d v' (xs ++ ys))) rs:=by
 obtain ⟨i0,hi0,hzz⟩:=Option.map_eq_some_iff.1 hinfo;simp only [Prod.mk.injEq] at hzz;obtain ⟨hz0,hz1,hz2⟩:=hzz;have hby':bytes <= 512:=Nat.le_of_ble_eq_true hby;have hl1:xs.length+ys.length <= 274877906944:=hlim;have hlim2:(xs.length+ys.length) * bytes <= 140737488355328:=Nat.le_trans (Nat.mul_le_mul hl1 hby') (by decide);obtain ⟨col,h1,h2⟩:=H;obtain ⟨flat,hown,hrows,hblk⟩:=h1 i _ hi;obtain ⟨b,c,fl2,rfl,hrows2,hsrc⟩:=hm col h1 h2;have H:Sep w os rs:=⟨col,h1,h2⟩
 rcases hsrc with ⟨rfl,rfl⟩ | ⟨ad,rfl,hcell⟩
 ·-- nothing is appended
  have hrun:(Builtin.append_ #[t,t] ty #[v,.slice none ([]:List α).length c]).run P w= .ok v w:=by
   rcases hown.2 with ⟨rfl,hn⟩ | ⟨g,cap,cur,rfl,_,_,hnc,_⟩
   ·simp [Builtin.append_,run_underlying ht,sizeOf,typeInfo,hi0,Builtin.lenOf,Builtin.firstCells]
   simp [Builtin.append_,run_underlying ht,sizeOf,typeInfo,hi0,Builtin.lenOf,Builtin.firstCells,hnc,storeCells]
  refine ⟨v,w,hrun,?_⟩;rw [List.append_nil];have:os.set i (Row e d v xs)=os:=by
   apply List.ext_getElem?;intro q;by_cases hq:i=q
   ·subst hq;rw [List.getElem?_set_self (by rcases Nat.lt_or_ge i os.length with h | h;exact h;rw [List.getElem?_eq_none h] at hi;cases hi),hi]
   rw [List.getElem?_set_ne hq]
  rw [this];exact H
 obtain ⟨v',w',hr,hown',hg,_,hat⟩:=run_append_own_at (P:=P) w 0 t ty e i0 z d.sz bytes ht hi0 hz0 hz1 hz2 hz d.pos v xs.length flat hown ad ys.length c fl2 hrows2.1 hcell hrows2.one (by simp only [maxLen];omega) hlim2 (Nat.zero_le _);have hkk:Kp (λb=>col b=0) w w':=(Kp.grown hg).mono λb _ hb e=>by
  have:=hblk b e.symm;omega
 refine ⟨v',w',hr,Sep.upd_col h1 h2 i hi ((Kp.grown hg).mono λb _ hb e=>hb (hblk b e.symm)) ⟨flat ++ fl2,by rw [List.length_append];exact hown',?_,λg hg'=>?_⟩⟩
 ·exact Rows.append (hrows.keep hkk λb hb h=>⟨h,hb⟩) (hrows2.keep hkk λb hb h=>⟨h,hb⟩)
 rcases hat with hat | hat
 ·exact .inl (hblk g (by rw [← hat];exact hg'))
 rw [hat] at hg';cases hg';exact .inr (Nat.le_refl _)
theorem gG(E:Env n a env)(H:Sep w os rs)(hw:Region.wanted o (yielded ops a.tmps)=true){dd:Nat}(hd:o.dst=some dd)(hdn:Nat.ble (dd+1) n=true){α:Type}{i:Nat}{t e:TI}{d:Kd α}{z:VL}{bytes:Nat}{x y:Operand}{v u:VL}{xs ys:List α}
  (ho:o.op= .call { callee:=.builtin .append,args:=#[x,y],argTypes:=#[t,t] }) (hx:opv env x=some v) (hy:opv env y=some u) (hi:os[i]? =some (Row e d v xs)) (hm:Src w os rs d u ys)
  (ht:P.underlying t=some (.slice e)) (hinfo:(P.info? e).map (λi=>(i.zero,i.size,i.bytes))=some (some z,d.sz,bytes)) (hz:z.cells.size=d.sz) (hlim:xs.length+ys.length <= LIM) (hby:Nat.ble bytes 512=true)
  (k:∀ v' w' a',Sep w' (os.set i (Row e d v' (xs ++ ys))) rs->Env n a' ((dd,v')::env)->wpList P ops Q rest a' w'):wpList P ops Q (o::rest) a w:=by
 obtain ⟨v',w',hr,H'⟩:=AO (P:=P) (ty:=o.type) H hi hm ht hinfo hz hlim hby;refine eS E hw hd hdn (v:=v') (w':=w') ?_ λa' E'=>k v' w' a' H' E';simp only [execOp,ho];simp [Sem.run_bind,resolve,invoke,builtin,E.eval hx,E.eval hy,hr]
/-! ### literals of slices -/
theorem EU{t e:TI}{m:Nat}{parts:List (Nat×VL)}{v:VL}{cs:List VL}(hr:(Instr.buildSlice t m parts.toArray).run P w= .ok v (w.alloc (.cells cs.toArray e)))(E:Env n a env){ps:List (Nat×Operand)}(ho:o.op= .buildSlice t m ps.toArray)(hx:ps.map (λp=>(p.1,a.eval p.2))=parts) :
  (execOp a.eval o).run P w= .ok (.value v) (w.alloc (.cells cs.toArray e)):=by
 have:(ps.toArray.map λp=>(p.1,a.eval p.2))=parts.toArray:=by rw [List.map_toArray,hx]
 simp only [execOp,ho];simp [Sem.run_bind];simp at this;rw [this,hr];rfl
/-- a literal that is only read. -/
theorem tE(E:Env n a env)(H:Sep w os rs)(hw:Region.wanted o (yielded ops a.tmps)=true){dd:Nat}(hd:o.dst=some dd)(hdn:Nat.ble (dd+1) n=true){α:Type}{d:Kd α}{t e:TI}{m:Nat}{ps:List (Nat×Operand)}{parts:List (Nat×VL)}{cs:List VL}{xs:List α}
  (ho:o.op= .buildSlice t m ps.toArray) (hx:ps.map (λp=>(p.1,a.eval p.2))=parts) (hr:(Instr.buildSlice t m parts.toArray).run P w= .ok (.slice (some ⟨w.heap.size,0,none⟩) m m) (w.alloc (.cells cs.toArray e)))
  (hl:xs.length=m) (hR:∀ ok,(∀ r:Rp,r ∈ rs->r.p w ok)->Rows d w ok xs cs)
  (k:∀ v w' a',Sep w' os (rSl d v xs::rs)->Env n a' ((dd,v)::env)->wpList P ops Q rest a' w'):wpList P ops Q (o::rest) a w:=by
 refine eS E hw hd hdn (EU hr E ho hx) λa' E'=>k _ _ a' (H.newR (Kp.alloc _ w _) λok hok=>?_) E';refine ⟨_,m,cs,by rw [hl],by omega,(hR ok hok).keep (Kp.alloc ok w _) λb _ hb=>.inr hb,λhne=>⟨_,rfl,.inl (Nat.le_refl _),λj u hu=>?_⟩⟩;rw [qG,cell_of_row _ _ _ cs.toArray e (0,0) (heap_alloc_new w _)];simpa using hu
/-- a literal that is owned. -/
theorem pL(E:Env n a env)(H:Sep w os rs)(hw:Region.wanted o (yielded ops a.tmps)=true){dd:Nat}(hd:o.dst=some dd)(hdn:Nat.ble (dd+1) n=true){α:Type}{d:Kd α}{t e:TI}{m:Nat}{ps:List (Nat×Operand)}{parts:List (Nat×VL)}{cs:List VL}{xs:List α}
  (ho:o.op= .buildSlice t m ps.toArray) (hx:ps.map (λp=>(p.1,a.eval p.2))=parts) (hr:(Instr.buildSlice t m parts.toArray).run P w= .ok (.slice (some ⟨w.heap.size,0,none⟩) m m) (w.alloc (.cells cs.toArray e)))
  (hl:xs.length=m) (hm:Nat.ble m 4096=true) (hR:∀ ok,(∀ r:Rp,r ∈ rs->r.p w ok)->Rows d w ok xs cs)
  (k:∀ v w' a',Sep w' (Row e d v xs::os) rs->Env n a' ((dd,v)::env)->wpList P ops Q rest a' w'):wpList P ops Q (o::rest) a w:=by
 refine eS E hw hd hdn (EU hr E ho hx) λa' E'=>k _ _ a' (H.new (Kp.alloc _ w _) λok hok=>?_) E';have hR':=hR ok hok;have hm':=Nat.le_of_ble_eq_true hm;refine ⟨cs,?_,hR'.keep (Kp.alloc ok w _) λb hb h=>⟨h,hb⟩,λg hg=>by simp [Value.ownBlock] at hg;omega⟩;have:=World.ownsRow_lit (base:=0) (e:=e) (size:=d.sz) w cs.toArray m (Nat.zero_le _) (by simp only [maxLen];omega) (by have:=hR'.1;rw [hl] at this;simpa using this);simpa [hl] using this

/-! ### cuts -/
theorem LQ(E:Env n a env)(H:Sep w os rs)(hw:Region.wanted o (yielded ops a.tmps)=true){dd:Nat}(hd:o.dst=some dd)(hdn:Nat.ble (dd+1) n=true){α:Type}{d:Kd α}{t e:TI}{x l:Operand}{v:VL}{xs:List α}{k1:IntKind}{i:Int}
  (ho:o.op= .slice t x none (some l) none) (hx:opv env x=some v) (hl:opv env l=some (.int k1 i)) (hm:rSl d v xs ∈ rs) (ht:P.underlying t=some (.slice e)) (hs:(P.info? e).map (·.size)=some d.sz) (h0:0 <= i/\i <= xs.length)
  (k:∀ v' a',Sep w os (rSl d v' (xs.take i.toNat)::rs)->Env n a' ((dd,v')::env)->wpList P ops Q rest a' w):wpList P ops Q (o::rest) a w:=by
 obtain ⟨ok,h⟩:=H.rd hm;obtain ⟨b,c,rfl,hc⟩:=Sl.form h;refine eS E hw hd hdn (v:=.slice b i.toNat c) (w':=w) ?_ λa' E'=>k _ a' (H.derive1 hm _ λok h=>Sl.take h i.toNat (by omega)) E';simp only [execOp,ho];have h2:i <= (c:Int):=by omega
 have h3:∀ b:Option Addr,Option.map (λx=>x.add 0) b=b:=λb=>by cases b <;> simp [Addr.add]
 simp [Sem.run_bind,E.eval hx,E.eval hl,Instr.sliceAt,run_underlying ht,Instr.slice,Instr.sliceBounds,Instr.sliceBound,asIntOf,h0.1,h2,jN hs,h3]
theorem KX(E:Env n a env){t:TI}{x l h:Operand}{s:ByteArray}{k1 k2:IntKind}{i j:Int}(ho:o.op= .slice t x (some l) (some h) none)(hx:opv env x=some (.string s))(hl:opv env l=some (.int k1 i))(hh:opv env h=some (.int k2 j))(ht:P.underlying t=some .string)(h0:0 <= i/\i <= j/\j <= s.size) :
  (execOp a.eval o).run P w= .ok (.value (.string (s.extract i.toNat j.toNat))) w:=by
 simp only [execOp,ho];have h1:0 <= j:=by omega
 have e1:(j.toNat:Int)=j:=Int.toNat_of_nonneg h1;simp [Sem.run_bind,E.eval hx,E.eval hl,E.eval hh,Instr.sliceAt,run_underlying ht,Instr.slice,Instr.sliceBounds,Instr.sliceBound,asIntOf,h0.1,h0.2.1,h0.2.2,h1,e1]
theorem Hb(E:Env n a env){t:TI}{x l:Operand}{s:ByteArray}{k1:IntKind}{i:Int}(ho:o.op= .slice t x (some l) none none)(hx:opv env x=some (.string s))(hl:opv env l=some (.int k1 i))(ht:P.underlying t=some .string)(h0:0 <= i/\i <= s.size) :
  (execOp a.eval o).run P w= .ok (.value (.string (s.extract i.toNat s.size))) w:=by
 simp only [execOp,ho];simp [Sem.run_bind,E.eval hx,E.eval hl,Instr.sliceAt,run_underlying ht,Instr.slice,Instr.sliceBounds,Instr.sliceBound,asIntOf,h0.1,h0.2]
theorem Kw(E:Env n a env){t:TI}{x h:Operand}{s:ByteArray}{k2:IntKind}{j:Int}(ho:o.op= .slice t x none (some h) none)(hx:opv env x=some (.string s))(hh:opv env h=some (.int k2 j))(ht:P.underlying t=some .string)(h0:0 <= j/\j <= s.size) :
  (execOp a.eval o).run P w= .ok (.value (.string (s.extract 0 j.toNat))) w:=by
 simp only [execOp,ho];simp [Sem.run_bind,E.eval hx,E.eval hh,Instr.sliceAt,run_underlying ht,Instr.slice,Instr.sliceBounds,Instr.sliceBound,asIntOf,h0.1,h0.2]

theorem LR(E:Env n a env){t t' e:TI}{x y:Operand}{b:Option Addr}{m c:Nat}(ho:o.op= .binOp .eql t x y t')(hx:opv env x=some (.slice b m c))(hy:opv env y=some (.slice none 0 0))(ht:P.underlying t=some (.slice e)):(execOp a.eval o).run P w= .ok (.value (.bool b.isNone)) w:=by
 simp only [execOp,ho,E.eval hx,E.eval hy];simp [eqGuard,Sem.run_bind,run_eql_slice_nil w t e b m c 0 0 ht]
theorem Sep.sl_none (H:Sep w os rs) {α:Type} {d:Kd α} {xs:List α} {m c:Nat} (hm:rSl d (.slice none m c) xs ∈ rs):xs= []:=by
 obtain ⟨ok,b,c',flat,he,_,_,h⟩:=H.rd hm;cases he;by_cases hx:xs= []
 ·exact hx
 obtain ⟨ad,h',_⟩:=h hx;cases h'
/-! ### string(b) -/
end
end Go.Cb

namespace Go.Cb
open Go.RowKit
section
variable {P:Program} {ops:Array Oper} {Q:Exit->Act->WD->Prop} {I:WD->Prop} {T:Nat->Bool}

/-- o yields v in every world of I. -/
def Yl(P:Program)(I:WD->Prop)(ops:Array Oper)(o:Oper)(v:VL)(a:Act):Prop:=
 (Region.wanted o (yielded ops a.tmps)=true/\∀ w,I w->(execOp a.eval o).run P w= .ok (.value v) w)∨(Region.wanted o (yielded ops a.tmps)=false/\v=undef)

def Ak(P:Program)(I:WD->Prop)(T:Nat->Bool)(ops:Array Oper)(Q:Exit->Act->WD->Prop):Nat->Array Bool->Act->WD->Prop
 | 0,listed,a,w=>Region.ready .any ops listed= []/\Q .normal a w
 | m+1,listed,a,w=>(Region.ready .any ops listed= []->Q .normal a w)/\∀ i ∈ Region.ready .any ops listed,wpOp P ops Q i (λa' w'=>(T i=true∨I w')/\Ak P I T ops Q m (listed.setIfInBounds i true) a' w') a w

theorem Do:∀ (m:Nat) (listed:Array Bool) (a:Act) (w:WD),Ak P I T ops Q m listed a w->wpAny P .any ops Q m listed a w
 | 0,_,_,_,h=>h
 | m+1,listed,a,w,h=>⟨h.1,λi hi=>wpOp_mono (λa' w' h'=>Do m _ a' w' h'.2) (h.2 i hi)⟩

theorem Yl.put {o:Oper} {v:VL} {a:Act} {x:Oper} (hs:∀ cs b,o.op ≠ .select cs b) (h3:∀ d,x.dst=some d->d ∉ o.looksAt ops) (hy:Yl P I ops o v a) (u:VL):Yl P I ops o v (a.put x.dst u):=by
 unfold Yl at *;rw [execOp_put o hs a x.dst u h3,wanted_put o a x.dst u h3];exact hy
theorem Yl.wpOp {i:Nat} {o:Oper} {v:VL} {a:Act} {w:WD} (hi:ops[i]? =some o) (hy:Yl P I ops o v a) (hI:I w) {K:Act->WD->Prop} (h:K (a.put o.dst v) w):wpOp P ops Q i K a w:=by
 unfold Go.wpOp;simp only [hi];rcases hy with ⟨hw,hv⟩ | ⟨hw,rfl⟩
 ·rw [iP hw];unfold Oper.wp;rw [hv w hI];exact .inl h
 ·rw [iN (by rw [hw];exact Bool.false_ne_true)];exact h

/-- what is done behind x may be done ahead of it. -/
theorem Vb{j:Nat}{x y:Oper}{v:VL}(hj:ops[j]? =some y)(hap:x.apart ops y=true)(hsx:∀ cs b,x.op ≠ .select cs b)(hsy:∀ cs b,y.op ≠ .select cs b)(hQ:∀ c a w,Q (.panic c) a w->False)
  {K:Act->WD->Prop} {a:Act} {w:WD} (hy:Yl P I ops x v a) {J:WD->Prop} (h:wpOp P ops Q j (λa' w'=>J w'/\K a' w') (a.put x.dst v) w) :
  wpOp P ops Q j (λa' w'=>J w'/\(Yl P I ops x v a'/\K (a'.put x.dst v) w')) a w:=by
 obtain ⟨h1,h2,h3⟩:=Oper.apart_spec hap;have next:∀ u w',(J w'/\K ((a.put x.dst v).put y.dst u) w')->J w'/\(Yl P I ops x v (a.put y.dst u)/\K ((a.put y.dst u).put x.dst v) w'):=λu w' hk=>
  ⟨hk.1,hy.put hsx h3 u,by rw [← Act.put_comm a v u h2];exact hk.2⟩
 unfold wpOp at *;simp only [hj] at *;rw [wanted_put y a x.dst v h1] at h;by_cases hw:Region.wanted y (yielded ops a.tmps)=true
 ·rw [iP hw] at h ⊢;rcases h with h | ⟨hasks,hlets⟩
  ·refine .inl ?_;unfold Oper.wp at *;rw [execOp_put y hsy a x.dst v h1] at h;cases hr:(execOp a.eval y).run P w with
   | halt q w'=>
    rw [hr] at h;cases q <;> first | exact h.elim | exact (hQ _ _ _ h).elim
   | ok q w'=>
    rw [hr] at h;cases q with
    | value u=>exact next u w' h
    | skip=>exact next undef w' h
    | defer d=>
     refine ⟨h.1,?_,?_⟩
     ·have:Yl P I ops x v { a with defers:=d::a.defers }:=hy;exact this.put hsx h3 undef
     have hk:=h.2;rw [Act.put_defers,Act.put_comm _ v undef h2] at hk;exact hk
    | enter f args=>
     refine Calls.mono h λe w'' he=>?_;cases e with
     | returned u=>exact next u w'' he
     | panicked c=>exact (hQ _ _ _ he).elim
     | outgrown=>exact he
    | row r args=>exact Rows.mono h λu w'' he=>next u w'' he
    | _=>exact h.elim
  refine .inr ⟨?_,hlets⟩;unfold Oper.asks at *;rwa [execOp_put y hsy a x.dst v h1] at hasks
 ·rw [iN hw] at h ⊢;exact next undef w h

theorem Kx{i:Nat}{x:Oper}{v:VL}(hi:ops[i]? =some x)(hsel:∀ (j:Nat) (o:Oper) cs b,ops[j]? =some o->o.op ≠ .select cs b)(hQ:∀ c a w,Q (.panic c) a w->False)(hT:∀ j y,ops[j]? =some y->T j=true->∃ e,e ∈ y.after/\Region.binds .any e=true/\e.on=i)(hTi:T i=false) :
  ∀ (m:Nat) (listed:Array Bool) (a:Act) (w:WD),
   (∀ j y,ops[j]? =some y->j ≠ i->listed.getD j true=false->(∀ e ∈ y.after,Region.binds .any e=true->e.on ≠ i)->x.apart ops y=true)->
   i ∈ Region.ready .any ops listed->I w->Yl P I ops x v a->Ak P I T ops Q m (listed.setIfInBounds i true) (a.put x.dst v) w->Ak P I T ops Q (m+1) listed a w:=by
 intro m
 induction m with
 | zero=>
  intro listed a w _ hr hI hy H;refine ⟨λh=>(by rw [h] at hr;cases hr),λj hj=>?_⟩;by_cases hji:j=i
  ·subst hji;exact hy.wpOp hi hI ⟨.inr hI,H⟩
  have:=ready_mono hj hji;rw [H.1] at this;cases this
 | succ m ih=>
  intro listed a w hfree hr hI hy H;refine ⟨λh=>(by rw [h] at hr;cases hr),λj hj=>?_⟩;by_cases hji:j=i
  ·subst hji;exact hy.wpOp hi hI ⟨.inr hI,H⟩
  ·obtain ⟨hjun,y,hoj,hall⟩:=mem_ready.1 hj;have hnot:∀ e ∈ y.after,Region.binds .any e=true->e.on ≠ i:=λe he hb heq=>by
    have h1:=hall e he hb;have h0:=(mem_ready.1 hr).1;rw [heq] at h1;rcases Nat.lt_or_ge i listed.size with h' | h'
    ·simp [h'] at h0 h1;rw [h0] at h1;cases h1
    simp [Array.getElem?_eq_none h'] at h1
   have hTj:T j=false:=by
    cases hq:T j with
    | false=>rfl
    | true=>
     obtain ⟨e,he,hb,heq⟩:=hT j y hoj hq;exact absurd heq (hnot e he hb)
   have h2:=Vb hoj (hfree j y hoj hji hjun hnot) (λcs b=>hsel i x cs b hi) (λcs b=>hsel j y cs b hoj) hQ hy (H.2 j (ready_mono hj hji));have hfree':∀ k z,ops[k]? =some z->k ≠ i->(listed.setIfInBounds j true).getD k true=false->(∀ e ∈ z.after,Region.binds .any e=true->e.on ≠ i)->x.apart ops z=true:=λk z hk hki hun hno=>by
    refine hfree k z hk hki ?_ hno;by_cases hjk:j=k
    ·subst hjk;exact hjun
    rw [getD_set_ne true hjk] at hun;exact hun
   refine wpOp_mono (λa' w' h3=>⟨h3.1,ih (listed.setIfInBounds j true) a' w' hfree' (ready_mono hr (Ne.symm hji)) (h3.1.resolve_left (by rw [hTj];exact Bool.false_ne_true)) h3.2.1 ?_⟩) h2;rw [Array.setIfInBounds_comm _ _ hji];exact h3.2.2

/-- the order in which a region is gone through: the operation's number, and 0: it only reads or reckons; 1: it turns the world; 2: it turns it, and comes behind all that only read. -/
def N9(ops:Array Oper):List (Nat×Nat)->Array Bool->Bool
 | [],listed=>(Region.ready .any ops listed).isEmpty
 | (i,0)::l,listed=>(Region.ready .any ops listed).contains i && Region.free .any ops listed i && N9 ops l (listed.setIfInBounds i true)
 | (i,_+1)::l,listed=>(Region.ready .any ops listed == [i]) && N9 ops l (listed.setIfInBounds i true)
def Hc(ord:List (Nat×Nat))(j:Nat):Bool:=ord.any λp=>p.1 == j && p.2 == 2
def EV(ops:Array Oper)(ord:List (Nat×Nat)):Bool:=
 ord.all λp=>p.2 != 0 || (!Hc ord p.1 && (List.range ops.size).all λj=>!Hc ord j || match ops[j]? with | some y=>y.after.any λe=>Region.binds .any e && e.on == p.1 | none=>true)
/-- tails come last. -/
def zO:List (Nat×Nat)->Bool
 | []=>true
 | (_,k)::l=>zO l && (k != 2 || l.all λp=>p.2 == 2)

def oN(P:Program)(I:WD->Prop)(ops:Array Oper)(Q:Exit->Act->WD->Prop):List (Nat×Nat)->Act->WD->Prop
 | [],a,w=>Q .normal a w
 | (i,0)::l,a,w=>∃ o,ops[i]? =some o/\∃ v,Yl P I ops o v a/\oN P I ops Q l (a.put o.dst v) w
 | (i,1)::l,a,w=>∃ o,ops[i]? =some o/\wpList P ops (Exit.then (λa' w'=>I w'/\oN P I ops Q l a' w') Q) [o] a w
 | (i,_+2)::l,a,w=>∃ o,ops[i]? =some o/\wpList P ops (Exit.then (λa' w'=>oN P I ops Q l a' w') Q) [o] a w

theorem wZ{i:Nat}{o:Oper}{a:Act}{w:WD}{K:Act->WD->Prop}(hi:ops[i]? =some o)(h:wpList P ops (Exit.then K Q) [o] a w):wpOp P ops Q i K a w:=by
 unfold wpOp;simp only [hi];unfold wpList at h;by_cases hw:Region.wanted o (yielded ops a.tmps)=true
 ·rw [iP hw] at h ⊢;rcases h with h | ⟨h1,h2⟩
  ·refine .inl ?_;unfold Oper.wp at *;cases hrun:(execOp a.eval o).run P w with
   | halt q w'=>
    rw [hrun] at h;cases q <;> first | exact h.elim | exact h
   | ok q w'=>
    rw [hrun] at h;cases q with
    | value u=>exact h
    | skip=>exact h
    | defer d=>exact h
    | enter f args=>
     refine Calls.mono h λe w'' he=>?_;cases e with
     | returned u=>exact he
     | panicked c=>exact he
     | outgrown=>exact he
    | row r args=>exact Rows.mono h λu w'' he=>he
    | _=>exact h.elim
  exact .inr ⟨h1,h2⟩
 ·rw [iN hw] at h ⊢;exact h

theorem Ij(hs:Region.noSelect ops=true)(hQ:∀ c a w,Q (.panic c) a w->False):∀ (l:List (Nat×Nat)) (listed:Array Bool) (a:Act) (w:WD),
  (∀ i k,(i,k) ∈ l->(k=0->T i=false/\∀ j y,ops[j]? =some y->T j=true->∃ e,e ∈ y.after/\Region.binds .any e=true/\e.on=i)/\(k ≥ 2->T i=true))->((∃ i,(i,0) ∈ l)->I w)->zO l=true->(∀ i k,(i,k) ∈ l->k <= 2)->
  N9 ops l listed=true->oN P I ops Q l a w->Ak P I T ops Q l.length listed a w
 | [],listed,a,w,_,_,_,_,ho,h=>⟨by simpa [N9] using ho,h⟩
 | (i,0)::l,listed,a,w,hT,hI,hl,hk,ho,h=>by
  simp only [N9,Bool.and_eq_true] at ho;obtain ⟨⟨hr,hf⟩,ho⟩:=ho;obtain ⟨o,hi,v,hy,h⟩:=h;simp only [zO,Bool.and_eq_true] at hl;have hIw:=hI ⟨i,.head _⟩;obtain ⟨hTi,hTe⟩:=(hT i 0 (.head _)).1 rfl;exact Kx hi (Region.noSelect_spec hs) hQ hTe hTi l.length listed a w (λj y hj hne hun hno=>Region.free_spec hi hf j y hj hne hun hno) (by simpa using hr) hIw hy
   (Ij hs hQ l _ _ w (λi k hm=>hT i k (.tail _ hm)) (λ_=>hIw) hl.1 (λi k hm=>hk i k (.tail _ hm)) ho h)
 | (i,1)::l,listed,a,w,hT,hI,hl,hk,ho,h=>by
  simp only [N9,Bool.and_eq_true,beq_iff_eq] at ho;obtain ⟨hr,ho⟩:=ho;obtain ⟨o,hi,h⟩:=h;simp only [zO,Bool.and_eq_true] at hl;refine ⟨λh0=>(by rw [hr] at h0;cases h0),λj hj=>?_⟩;rw [hr] at hj;simp at hj;subst hj;exact wpOp_mono (λa' w' h'=>⟨.inr h'.1,Ij hs hQ l _ _ _ (λi k hm=>hT i k (.tail _ hm)) (λ_=>h'.1) hl.1 (λi k hm=>hk i k (.tail _ hm)) ho h'.2⟩) (wZ hi h)
 | (i,k+2)::l,listed,a,w,hT,hI,hl,hk,ho,h=>by
  simp only [N9,Bool.and_eq_true,beq_iff_eq] at ho;obtain ⟨hr,ho⟩:=ho;obtain ⟨o,hi,h⟩:=h;simp only [zO,Bool.and_eq_true] at hl;have hk0:k=0:=by have:=hk i (k+2) (.head _);omega
  subst hk0;have hno:¬ ∃ i,(i,0) ∈ l:=by
   rintro ⟨q,hq⟩;have:=hl.2;simp at this;have:=this q 0 hq;omega
  refine ⟨λh0=>(by rw [hr] at h0;cases h0),λj hj=>?_⟩;rw [hr] at hj;simp at hj;subst hj;exact wpOp_mono (λa' w' h'=>⟨.inl ((hT _ _ (.head _)).2 (by omega)),Ij hs hQ l _ _ _ (λi k hm=>hT i k (.tail _ hm)) (λhx=>(hno hx).elim) hl.1 (λi k hm=>hk i k (.tail _ hm)) ho h'⟩) (wZ hi h)

def Kz(ops:Array Oper)(ord:List (Nat×Nat)):Bool:=
 Region.noSelect ops && N9 ops ord (Array.replicate ops.size false) && Nat.beq ord.length ops.size && zO ord && EV ops ord && ord.all λp=>Nat.ble p.2 2
theorem Nj{id:Nat}{a:Act}{w:WD}(I:WD->Prop)(ord:List (Nat×Nat))(hm:P.follows .mixedOrders=true)(ho:Kz ops ord=true)
  (hQ:∀ c a w,Q (.panic c) a w->False) (hI:I { w with drawn:=w.drawn+1 }) (h:oN P I ops Q ord a { w with drawn:=w.drawn+1 }):(Code.region id ops true).wp P Q a w:=by
 simp only [Kz,Bool.and_eq_true] at ho;obtain ⟨⟨⟨⟨⟨h1,h2⟩,h3⟩,h4⟩,h5⟩,h6⟩:=ho;have hlen:ord.length=ops.size:=Nat.eq_of_beq_eq_true h3;refine wp_region_any hm (hlen ▸ Do (T:=Hc ord) (I:=I) _ _ _ _ (Ij h1 hQ ord _ a _ (λi k hmem=>?_) (λ_=>hI) h4 (λi k hmem=>?_) (hlen.symm ▸ h2) h))
 ·refine ⟨λhk=>?_,λhk=>?_⟩
  ·subst hk;simp only [EV,List.all_eq_true] at h5;have:=h5 _ hmem;simp only [bne_self_eq_false,Bool.false_or,Bool.and_eq_true,Bool.not_eq_true',List.all_eq_true,List.mem_range] at this;refine ⟨this.1,λj y hj hTj=>?_⟩;have hq:=this.2 j (Array.getElem?_eq_some_iff.1 hj).1;rw [hTj,hj] at hq;simp only [Bool.not_true,Bool.false_or] at hq;obtain ⟨e,he,hb⟩:=Array.any_eq_true'.1 hq;simp only [Bool.and_eq_true,beq_iff_eq] at hb;exact ⟨e,he,hb⟩
  have h7:k <= 2:=by
   have:=List.all_eq_true.1 h6 _ hmem;exact Nat.le_of_ble_eq_true this
  have hk2:k=2:=by omega
  subst hk2;exact List.any_eq_true.2 ⟨_,hmem,by simp⟩
 ·have:=List.all_eq_true.1 h6 _ hmem;exact Nat.le_of_ble_eq_true this

/-! ### its steps -/
variable {ord:List (Nat×Nat)} {o:Oper} {a:Act} {w:WD} {n:Nat} {env:List (Nat×VL)} {i:Nat}
theorem bF(h:Q .normal a w):oN P I ops Q [] a w:=h
theorem dU(E:Env n a env)(hi:ops[i]? =some o)(hw:Region.wanted o (yielded ops a.tmps)=true){d:Nat}(hd:o.dst=some d)(hdn:Nat.ble (d+1) n=true){v:VL}
  (hrun:∀ w,I w->(execOp a.eval o).run P w= .ok (.value v) w) (k:∀ a',Env n a' ((d,v)::env)->oN P I ops Q ord a' w):oN P I ops Q ((i,0)::ord) a w:=
 ⟨o,hi,v,.inl ⟨hw,hrun⟩,by rw [hd];exact k _ (E.put d hdn v)⟩
theorem UI(E:Env n a env)(hi:ops[i]? =some o)(hw:Region.wanted o (yielded ops a.tmps)=false){d:Nat}(hd:o.dst=some d)(hdn:Nat.ble (d+1) n=true)
  (k:∀ a',Env n a' ((d,undef)::env)->oN P I ops Q ord a' w):oN P I ops Q ((i,0)::ord) a w:=
 ⟨o,hi,undef,.inr ⟨hw,rfl⟩,by rw [hd];exact k _ (E.put d hdn undef)⟩
theorem bO(hi:ops[i]? =some o)(h:wpList P ops (Exit.then (λa' w'=>I w'/\oN P I ops Q ord a' w') Q) [o] a w):oN P I ops Q ((i,1)::ord) a w:=⟨o,hi,h⟩
theorem bJ(hi:ops[i]? =some o)(h:wpList P ops (Exit.then (λa' w'=>oN P I ops Q ord a' w') Q) [o] a w):oN P I ops Q ((i,2)::ord) a w:=⟨o,hi,h⟩
end
/-- the worlds in which some objects and reads are as they were. -/
def dL(os:List Ob)(rs:List Rp):WD->Prop:=λw=>∃ os' rs',Sep w os' rs'/\(∀ o,o ∈ os->o ∈ os')/\∀ r,r ∈ rs->r ∈ rs'
theorem dL.cell {os:List Ob} {rs:List Rp} {w:WD} (h:dL os rs w) {p:Nat} {T:TI} {cs:List VL} (ho:Blk p T cs ∈ os):∃ (os':List Ob) (rs':List Rp) (i:Nat),Sep w os' rs'/\os'[i]? =some (Blk p T cs):=by
 obtain ⟨os',rs',H,h1,_⟩:=h;obtain ⟨i,hi⟩:=List.getElem?_of_mem (h1 _ ho);exact ⟨os',rs',i,H,hi⟩
end Go.Cb

namespace Go.Cb
open Go.RowKit
theorem aE{o:Ob}{os L:List Ob}(h:o ∈ L)(hs:∀ x,x ∈ os->x ∈ L):∀ x,x ∈ o::os->x ∈ L:=λx hx=>by
 cases hx with
 | head=>exact h
 | tail _ hx=>exact hs x hx
theorem aM{L:List Ob}:∀ x,x ∈ ([]:List Ob)->x ∈ L:=λx hx=>by cases hx
theorem aP{L:List Rp}:∀ x,x ∈ ([]:List Rp)->x ∈ L:=λx hx=>by cases hx
def IR(I:WD->Prop)(r:Rp):Prop:=∀ W,I W->∃ ok,r.p W ok
section
variable {P:Program} {I:WD->Prop} {os:List Ob} {rs:List Rp} {w:WD}
theorem IR.imp {r r':Rp} (h:IR I r) (k:∀ w ok,r.p w ok->r'.p w ok):IR I r':=λW hW=>let ⟨ok,hr⟩:=h W hW;⟨ok,k W ok hr⟩
/-- a slice that is read, its cells told. -/
def PS{α:Type}(d:Kd α)(v:VL)(xs:List α)(flat:List VL):Rp where
 p w ok:=∃ a c,v= .slice a xs.length c/\Rows d w ok xs flat/\(xs ≠ []->∃ ad,a=some ad/\ok ad.block/\∀ j u,flat[j]? =some u->w.cell? (ad.add j)=some u)
 keep:=by
  rintro w w' ok ok' ⟨a,c,rfl,hr,hm⟩ k hk;refine ⟨a,c,rfl,hr.keep k hk,λhne=>?_⟩;obtain ⟨ad,rfl,ho,hcell⟩:=hm hne;obtain ⟨u,hu⟩:=hr.ne_nil hne;have hb:=World.block_lt_of_cell? w _ (hcell 0 u hu);rw [tD] at hb;exact ⟨ad,rfl,hk _ hb ho,λj u hu=>k.cell (by rw [tD];exact ho) (hcell j u hu)⟩
/-- a datum at an address, its cells told. -/
def rAw{α:Type}(d:Kd α)(q:Addr)(x:α)(cs:List VL):Rp where
 p w ok:=ok q.block/\d.R w ok x cs/\∀ j u,cs[j]? =some u->w.cell? (q.add j)=some u
 keep:=by
  rintro w w' ok ok' ⟨ho,hr,hc⟩ k hk;have hl:=d.len hr;have hp:=d.pos;have hb:q.block < w.heap.size:=by
   have:=World.block_lt_of_cell? w _ (hc 0 cs[0] (List.getElem?_eq_getElem (by omega)));rwa [tD] at this
  exact ⟨hk _ hb ho,d.keep hr k hk,λj u hu=>k.cell (by rw [tD];exact ho) (hc j u hu)⟩
theorem Sep.raw (H:Sep w os rs) {α:Type} {d:Kd α} {v:VL} {xs:List α} (hm:rSl d v xs ∈ rs):∃ flat,Sep w os (PS d v xs flat::rs):=by
 obtain ⟨col,h1,h2⟩:=H;obtain ⟨a,c,flat,rfl,hc,hr,hcell⟩:=h2 _ hm;refine ⟨flat,col,h1,λr hr'=>?_⟩;cases hr' with
 | head=>exact ⟨a,c,rfl,hr,hcell⟩
 | tail _ hr'=>exact h2 r hr'
theorem PT{α:Type}{d:Kd α}{q:Addr}{x:α}{cs:List VL}(w:WD)(ok:Nat->Prop)(h:(rAw d q x cs).p w ok):(rAt d q x).p w ok:=⟨h.1,cs,h.2.1,h.2.2⟩
theorem L7{α β:Type}{A:Kd α}{B:Kd β}{q:Addr}{x:α}{y:β}{cs:List VL}{w:WD}{ok:Nat->Prop}(h:(rAw (kP A B) q (x,y) cs).p w ok):(rAw A q x (cs.take A.sz)).p w ok:=by
 obtain ⟨ho,⟨c1,c2,rfl,h1,h2⟩,hc⟩:=h;have e:(c1 ++ c2).take A.sz=c1:=by rw [← A.len h1];exact List.take_left
 rw [e];refine ⟨ho,h1,λj u hu=>hc j u ?_⟩;have hj:j < c1.length:=by
  rcases Nat.lt_or_ge j c1.length with h | h
  ·exact h
  rw [List.getElem?_eq_none h] at hu;cases hu
 rw [List.getElem?_append_left hj];exact hu
theorem uU{α β:Type}{A:Kd α}{B:Kd β}{q:Addr}{x:α}{y:β}{cs:List VL}{w:WD}{ok:Nat->Prop}(h:(rAw (kP A B) q (x,y) cs).p w ok):(rAw B (q.add A.sz) y (cs.drop A.sz)).p w ok:=by
 obtain ⟨ho,⟨c1,c2,rfl,h1,h2⟩,hc⟩:=h;have e:(c1 ++ c2).drop A.sz=c2:=by rw [← A.len h1];exact List.drop_left
 rw [e];refine ⟨by rw [tD];exact ho,h2,λj u hu=>?_⟩;rw [add_add,← A.len h1];refine hc _ u ?_;rw [List.getElem?_append_right (by omega),Nat.add_sub_cancel_left];exact hu
theorem UJ{α:Type}{f:α->VL}{h:∀ x,(f x).oneCell'=true}{t:TI}{q:Addr}{y:α}{d:TypeDesc}(hr:IR I (rAt (Kd.scalar f h) q y))(hu:P.underlying t=some d)(hp:dM d=true)(W:WD)(hW:I W):(Instr.loadAt t (.pointer (some q))).run P W= .ok (f y) W:=by
 obtain ⟨ok,_,cs,hcs,hc⟩:=hr W hW;have hcs':cs= [f y]:=hcs;subst hcs';exact Q9 hu hp (by have:=hc 0 (f y) rfl;rwa [show q.add 0=q from by simp [Addr.add]] at this)
/-- a struct whose cells are told by its data alone. -/
theorem xA{α:Type}{d:Kd α}{cs:List VL}{t:TI}{q:Addr}{y:α}{ds:TypeDesc}(hr:IR I (rAt d q y))(hk:∀ w ok c,d.R w ok y c->c=cs)(hu:P.underlying t=some ds)(hp:dM ds=false)(hs:(P.info? t).map (·.size)=some cs.length)(W:WD)(hW:I W):(Instr.loadAt t (.pointer (some q))).run P W= .ok (.agg cs.toArray) W:=by
 obtain ⟨ok,_,c,hcs,hc⟩:=hr W hW;have:=hk W ok c hcs;subst this;exact Bq hu hp hs hc
theorem Rq{p:Nat}{T:TI}{cs:List VL}(ho:Blk p T cs ∈ os){W:WD}(hW:dL os rs W){j:Nat}{v:VL}(hj:cs[j]? =some v):W.cell? ⟨p,j,none⟩=some v:=by
 obtain ⟨os',rs',i,H,hi⟩:=dL.cell hW ho;exact H.blk_cell hi hj
theorem KY{p:Nat}{T t:TI}{cs:List VL}{j:Nat}{v:VL}{d:TypeDesc}(ho:Blk p T cs ∈ os)(hj:cs[j]? =some v)(hu:P.underlying t=some d)(hp:dM d=true)(W:WD)(hW:dL os rs W):(Instr.loadAt t (.pointer (some ⟨p,j,none⟩))).run P W= .ok v W:=
 Q9 hu hp (Rq ho hW hj)
theorem K2{p:Nat}{T t:TI}{cs us:List VL}{j:Nat}{d:TypeDesc}(ho:Blk p T cs ∈ os)(hj:(cs.drop j).take us.length=us)(hu:P.underlying t=some d)(hp:dM d=false)(hs:(P.info? t).map (·.size)=some us.length)(W:WD)(hW:dL os rs W):(Instr.loadAt t (.pointer (some ⟨p,j,none⟩))).run P W= .ok (.agg us.toArray) W:=by
 refine Bq hu hp hs λk u hk=>?_;rw [qG];refine Rq ho hW ?_;rw [← hj,List.getElem?_take] at hk;split at hk
 ·rw [List.getElem?_drop] at hk;exact hk
 cases hk
theorem EW{α:Type}{d:Kd α}{t e:TI}{v:VL}{xs:List α}{ty:TI}(hr:IR I (rSl d v xs))(ht:P.underlying t=some (.slice e))(W:WD)(hW:I W):(Builtin.len_ #[t] ty #[v]).run P W= .ok (.int .i64 (xs.length:Int)) W:=by
 obtain ⟨ok,h⟩:=hr W hW;obtain ⟨b,c,rfl,_⟩:=Sl.form h;simp [Sem.run_bind,Builtin.len_,run_underlying ht,goInt]
end
section
variable {P:Program} {o:Oper} {w:WD} {a:Act} {n:Nat} {env:List (Nat×VL)}
theorem EX(E:Env n a env){t:TI}{x:Operand}{v u:VL}(ho:o.op= .call { callee:=.builtin .len,args:=#[x],argTypes:=#[t] })(hx:opv env x=some v)(hr:(Builtin.len_ #[t] o.type #[v]).run P w= .ok u w):(execOp a.eval o).run P w= .ok (.value u) w:=by
 simp only [execOp,ho];simp [Sem.run_bind,resolve,invoke,builtin,E.eval hx,hr]
theorem gL(E:Env n a env){t:TI}{x i:Operand}{v u p:VL}(ho:o.op= .indexAddr t x i)(hx:opv env x=some v)(hi:opv env i=some u)(hr:(Instr.indexAt t v u).run P w= .ok p w):(execOp a.eval o).run P w= .ok (.value p) w:=by
 simp only [execOp,ho,E.eval hx,E.eval hi];simp [Sem.run_bind,hr]
end
end Go.Cb

namespace Go.Cb
open Go.RowKit Go.ChangeShapes Go.WideShapes

def Wt{H:Type}(P:Program)(t:TI)(x:DataW H):Prop:=∀ n ∈ x.weights P t,n <= reachBytes

/-- a reading of type t is a datum of kind d. -/
def Op{α:Type}(P:Program)(d:Kd α)(t:TI)(WF:α->Prop):Prop:=
 ∀ {H:Type} {enc:TI×VL->H} {W:WD} {fuel:Nat} {cs:List VL} {x:DataW H×List MemPlace},
  DataW.trod enc P W 0 (λ_=>true) true fuel t cs=some x->Wt P t x.1->∃ y,d.R W (λ_=>True) y cs/\WF y

def InI(k:IntKind)(n:Int):Prop:=k.min <= n/\n <= k.max
def InS(s:ByteArray):Prop:=s.size <= 140737488351232
def InL{α:Type}(WF:α->Prop)(xs:List α):Prop:=xs.length <= 140737488351232/\∀ x ∈ xs,WF x

theorem gU{P:Program}{k:IntKind}{t:TI}(ht:P.underlying t=some (.int k)):Op P (kI k) t (InI k):=by
 intro H enc W fuel cs x h _;obtain ⟨n,rfl,rfl,hw⟩:=DataW.trod_int ht h;simp only [Lit.wf,Bool.and_eq_true,decide_eq_true_eq] at hw;exact ⟨n,rfl,hw.1,hw.2⟩
theorem Dv{P:Program}{t:TI}(ht:P.underlying t=some .bool):Op P kB t (λ_=>True):=by
 intro H enc W fuel cs x h _;obtain ⟨n,rfl,rfl⟩:=DataW.trod_bool ht h;exact ⟨n,rfl,trivial⟩
theorem iQ{P:Program}{t:TI}(ht:P.underlying t=some .string):Op P kS t InS:=by
 intro H enc W fuel cs x h hx;obtain ⟨s,rfl,rfl,_⟩:=DataW.trod_string ht h;have:=hx s.data.toList.length (by simp [DataW.weights]);refine ⟨s,rfl,?_⟩;rw [Array.length_toList] at this;exact this
theorem vK{α β:Type}{P:Program}{t:TI}{d:Kd α}{WF:α->Prop}(f:β->α)(g:α->β)(hfg:∀ x,f (g x)=x)(h:Op P d t WF):Op P (rD d f) t (λy=>WF (f y)):=by
 intro H enc W fuel cs x hx hw;obtain ⟨y,h1,h2⟩:=h hx hw;exact ⟨g y,by show d.R W _ (f (g y)) cs;rw [hfg];exact h1,by show WF (f (g y));rw [hfg];exact h2⟩
theorem He{H:Type}{P:Program}{e:TI}:∀ {l:List (DataW H)} {d:DataW H},d ∈ l->∀ n ∈ d.weights P e,n ∈ DataW.weightsAll P e l
 | a::l,d,hd,n,hn=>by
  simp only [DataW.weightsAll,List.mem_append];rcases List.mem_cons.1 hd with rfl | hd
  ·exact .inl hn
  exact .inr (He hd n hn)
/-- rows out of places. -/
theorem BL{α:Type}{d:Kd α}{W:WD}{WF:α->Prop}{a:Addr}:∀ (n:Nat),
  (∀ i,i < n->∃ y cs,d.R W (λ_=>True) y cs/\WF y/\∀ j u,cs[j]? =some u->W.cell? (a.add (i * d.sz+j))=some u)->
  ∃ ys flat,ys.length=n/\Rows d W (λ_=>True) ys flat/\(∀ y ∈ ys,WF y)/\∀ j u,flat[j]? =some u->W.cell? (a.add j)=some u
 | 0,_=>⟨[],[],rfl,Rows.nil _ _ _,by simp,by simp⟩
 | n+1,h=>by
  obtain ⟨ys,flat,hl,hr,hw,hc⟩:=BL n λi hi=>h i (by omega);obtain ⟨y,cs,h1,h2,h3⟩:=h n (by omega);refine ⟨ys ++ [y],flat ++ cs,by simp [hl],hr.append (Rows.single h1),?_,?_⟩
  ·intro z hz;rcases List.mem_append.1 hz with hz | hz
   ·exact hw z hz
   simp at hz;subst hz;exact h2
  intro j u hu;rcases Nat.lt_or_ge j flat.length with hj | hj
  ·rw [List.getElem?_append_left hj] at hu;exact hc j u hu
  rw [List.getElem?_append_right hj] at hu;have:=h3 _ u hu;rw [hr.1,hl] at this hj;rw [show n * d.sz+(j - n * d.sz)=j from by omega] at this;exact this
theorem vX{α:Type}{P:Program}{t e:TI}{d:Kd α}{WF:α->Prop}(ht:P.underlying t=some (.slice e))(hc:P.cellsOf e=d.sz)(hb:0 < P.bytesOf e)(h:Op P d e WF):Op P (kL d) t (InL WF):=by
 intro H enc W fuel cs x hx hw;rcases Go.Deep.open_slice ht hx with ⟨rfl,rfl⟩ | ⟨a,len,cap,m,n,D,Pl,rfl,_,hl,hm,hmm,rfl,hel⟩
 ·exact ⟨[],⟨_,rfl,Sl.nil _ _ _⟩,by simp,by simp⟩
 have hmc:m=cap:=by simpa using hmm
 subst hmc;rw [hc] at hel;have hW:∀ n ∈ (DataW.slice ((List.range len).map D) ((List.range (m - len)).map λj=>D (len+j))).weights P t,n <= reachBytes:=hw;simp only [DataW.weights,ht] at hW;obtain ⟨ys,flat,hyl,hr,hwf,hcell⟩:=BL (d:=d) (W:=W) (WF:=WF) (a:=a) len λi hi=>by
  obtain ⟨cs',h1,h2⟩:=hel i (by omega);obtain ⟨y,h3,h4⟩:=h h2 (by
   intro k hk;refine hW k (List.mem_cons_of_mem _ (List.mem_append_left _ (He (d:=D i) (List.mem_map.2 ⟨i,List.mem_range.2 hi,rfl⟩) k hk))))
  refine ⟨y,cs',h3,h4,λj u hu=>?_⟩;have hh:=World.cells?_some h1;have:=hh.2.2 j (by have:=(List.getElem?_eq_some_iff.1 hu).1;rw [hh.2.1] at this;exact this);rw [← Go.Deep.add_add];rw [hu] at this
  first | exact this | exact this.symm
 refine ⟨ys,⟨_,rfl,some a,m,flat,by rw [hyl],by omega,hr,λ_=>⟨a,rfl,trivial,hcell⟩⟩,?_,hwf⟩;have:=hW _ (List.mem_cons_self);simp only [List.length_map,List.length_range] at this;rw [hyl];have h2:len * 1 <= (len+(m - len)) * P.bytesOf e:=Nat.mul_le_mul (by omega) hb;have h3:reachBytes=140737488351232:=rfl;omega

/-- the fields of a struct, from one on. -/
def OpF{α:Type}(P:Program)(d:Kd α)(fs:List Field)(off:Nat)(WF:α->Prop):Prop:=
 ∀ {H:Type} {enc:TI×VL->H} {W:WD} {n:Nat} {cs:List VL} {xs:List (DataW H×List MemPlace)},
  (∀ (i:Nat) (f:Field),fs[i]? =some f->DataW.trod enc P W 0 (λ_=>true) true n f.type ((cs.drop f.offset).take (P.cellsOf f.type))=xs[i]?)->
  xs.length=fs.length->(∀ k ∈ DataW.weightsEach P (fs.map (·.type)) (xs.map (·.1)),k <= reachBytes)->cs.length=off+d.sz->
  ∃ y,d.R W (λ_=>True) y (cs.drop off)/\WF y
theorem rR{α:Type}{P:Program}{d:Kd α}{f:Field}{off:Nat}{WF:α->Prop}(ho:f.offset=off)(hc:P.cellsOf f.type=d.sz)(h:Op P d f.type WF):OpF P d [f] off WF:=by
 intro H enc W n cs xs h1 h2 h3 h4
 match xs,h2 with
 | [x],_=>
  have h5:=h1 0 f rfl;simp only [List.getElem?_cons_zero,ho,hc] at h5;obtain ⟨y,h6,h7⟩:=h h5 (λk hk=>h3 k (by simp [DataW.weightsEach];exact hk));refine ⟨y,?_,h7⟩;rw [List.take_of_length_le (by rw [List.length_drop];omega)] at h6;exact h6
theorem cF{α β:Type}{P:Program}{d:Kd α}{d':Kd β}{f:Field}{fs:List Field}{off:Nat}{WF:α->Prop}{WF':β->Prop}(ho:f.offset=off)(hc:P.cellsOf f.type=d.sz)(h:Op P d f.type WF)
  (k:OpF P d' fs (off+d.sz) WF'):OpF P (kP d d') (f::fs) off (λx=>WF x.1/\WF' x.2):=by
 intro H enc W n cs xs h1 h2 h3 h4
 match xs,h2 with
 | x::xs,h2=>
  have hsz:(kP d d').sz=d.sz+d'.sz:=rfl;have h5:=h1 0 f rfl;simp only [List.getElem?_cons_zero,ho,hc] at h5;simp only [List.map_cons,DataW.weightsEach,List.mem_append] at h3;obtain ⟨y,h6,h7⟩:=h h5 (λk hk=>h3 k (.inl hk));obtain ⟨z,h8,h9⟩:=k (xs:=xs) (λi g hg=>h1 (i+1) g (by simpa using hg)) (by simpa using h2) (λk hk=>h3 k (.inr hk)) (by omega);refine ⟨(y,z),⟨_,_,?_,h6,h8⟩,h7,h9⟩;rw [← List.drop_drop,List.take_append_drop]
theorem mD{α:Type}{P:Program}{t:TI}{fs:Array Field}{d:Kd α}{WF:α->Prop}(ht:P.underlying t=some (.struct fs))(hc:P.cellsOf t=d.sz)(h:OpF P d fs.toList 0 WF):Op P d t WF:=by
 intro H enc W fuel cs x hx hw;obtain ⟨xs,n,rfl,rfl,h1,h2,h3⟩:=DataW.trod_struct ht hx;have hW:∀ n ∈ (DataW.agg (xs.map (·.1))).weights P t,n <= reachBytes:=hw;simp only [DataW.weights,ht] at hW;obtain ⟨y,h4,h5⟩:=h (cs:=cs) (xs:=xs) (λi f hf=>h3 i f (by simpa using hf)) (by simpa using h2) hW (by omega);rw [List.drop_zero] at h4;exact ⟨y,h4,h5⟩

/-- an argument whose cells are one. -/
theorem EY(W:WD)(rs:List Rp)(h:∀ r ∈ rs,r.p W (λ_=>True)):Sep W [] (rs ++ [Xi W]):=by
 refine ⟨λ_=>0,by simp,λr hr=>?_⟩;rcases List.mem_append.1 hr with hr | hr
 ·have e:(λ_:Nat=>(λ_:Nat=>0) 0=0)=λ_=>True:=by funext b;simp
  have:=h r hr;exact r.keep this (Kp.refl _ _) (λ_ _ _=>rfl)
 simp at hr;subst hr;exact ⟨Below.refl _ _,λ_ _=>rfl⟩
theorem EZ{W W':WD}{rs:List Rp}{Fo:List Ob}(H:Sep W' Fo (rs ++ [Xi W])):Below W.heap.size W W':=by
 obtain ⟨col,_,h⟩:=H;exact (h (Xi W) (by simp)).1
theorem Nk{H:Type}{P:Program}{ts:List TI}{ds:List (DataW H)}{j:Nat}{t:TI}{d:DataW H}(h:(DataW.weightsEach P ts ds).all (· <= reachBytes)=true)(ht:ts[j]? =some t)(hd:ds[j]? =some d):Wt P t d:=by
 intro n hn;have:=List.all_eq_true.1 h n (DataW.weights_mem_each ht hd n hn);simpa using this
end Go.Cb

namespace Go.Cb
open Go.RowKit
section
variable {P:Program} {w:WD} {a:Act} {n:Nat} {env:List (Nat×VL)} {os:List Ob} {rs:List Rp}
def RV(P:Program)(w:WD)(env:List (Nat×VL)):ResultVar->VL->Prop
 | .tmp t,v=>pJ env t=some v
 | .cell t T,v=>∃ q,pJ env t=some (.pointer (some q))/\(loadVar T q).run P w= .ok v w
def Ea(tmps:Array VL):ResultVar->Sem VL
 | .tmp t=>pure (tmps.getD t undef)
 | .cell a t=>do loadVar t (← asAddr (tmps.getD a undef))
theorem RV.run (E:Env n a env) {r:ResultVar} {v:VL} (h:RV P w env r v):(Ea a.tmps r).run P w= .ok v w:=by
 cases r with
 | tmp t=>simp [Ea,E.getD h]
 | cell t T=>
  obtain ⟨q,h1,h2⟩:=h;simp [Ea,E.getD h1,asAddr,Sem.run_bind,h2]
theorem Xn{fn:Func}{r:ResultVar}(hr:fn.results= #[r])(E:Env n a env){v:VL}(h:RV P w env r v):(results fn a.tmps).run P w= .ok v w:=by
 have h1:=h.run E;have e:results fn a.tmps=(do let vs ← (#[r]:Array ResultVar).mapM (Ea a.tmps);pure (if h:vs.size=1 then vs[0] else .tuple vs)):=by
  unfold results;rw [hr];rfl
 rw [e];simp [Sem.run_bind,h1]
theorem Xo{fn:Func}{r s:ResultVar}(hr:fn.results= #[r,s])(E:Env n a env){v x:VL}(h:RV P w env r v)(k:RV P w env s x):(results fn a.tmps).run P w= .ok (.tuple #[v,x]) w:=by
 have h1:=h.run E;have h2:=k.run E;have e:results fn a.tmps=(do let vs ← (#[r,s]:Array ResultVar).mapM (Ea a.tmps);pure (if h:vs.size=1 then vs[0] else .tuple vs)):=by
  unfold results;rw [hr];rfl
 rw [e];simp [Sem.run_bind,h1,h2]
theorem Xp{fn:Func}{r s t:ResultVar}(hr:fn.results= #[r,s,t])(E:Env n a env){v x y:VL}(h:RV P w env r v)(k:RV P w env s x)(l:RV P w env t y):(results fn a.tmps).run P w= .ok (.tuple #[v,x,y]) w:=by
 have h1:=h.run E;have h2:=k.run E;have h3:=l.run E;have e:results fn a.tmps=(do let vs ← (#[r,s,t]:Array ResultVar).mapM (Ea a.tmps);pure (if h:vs.size=1 then vs[0] else .tuple vs)):=by
  unfold results;rw [hr];rfl
 rw [e];simp [Sem.run_bind,h1,h2,h3]
theorem rvT{t:Tmp}{v:VL}(h:pJ env t=some v):RV P w env (.tmp t) v:=h
theorem oO(H:Sep w os rs){t:Tmp}{T:TI}{i p j:Nat}{B:TI}{cs us:List VL}{d:TypeDesc}(hx:pJ env t=some (.pointer (some ⟨p,j,none⟩)))
  (hi:os[i]? =some (Blk p B cs)) (hj:(cs.drop j).take us.length=us) (hu:P.underlying T=some d) (hp:dM d=false) (hs:(P.info? T).map (·.size)=some us.length):RV P w env (.cell t T) (.agg us.toArray):=by
 refine ⟨_,hx,?_⟩;have:=run_loadCells_list (P:=P) (w:=w) ⟨p,j,none⟩ us λk u hk=>by
  rw [qG];refine H.blk_cell hi ?_;rw [← hj,List.getElem?_take] at hk;split at hk
  ·rw [List.getElem?_drop] at hk;exact hk
  cases hk
 simp [loadVar,Sem.run_bind,Va hu hp,jN hs,this]
theorem Ik{fn:Func}{R:VL->WD->Prop}(E:Env n a env){r:ResultVar}(hr:fn.results= #[r]){v:VL}(h1:RV P w env r v)(h:R v w):bodyPost P fn (Ret R) .ret a w:=
 ⟨E.defers,_,Xn hr E h1,h⟩
theorem r8{fn:Func}{R:VL->WD->Prop}(E:Env n a env){r s:ResultVar}(hr:fn.results= #[r,s]){v x:VL}(h1:RV P w env r v)(h2:RV P w env s x)(h:R (.tuple #[v,x]) w):bodyPost P fn (Ret R) .ret a w:=
 ⟨E.defers,_,Xo hr E h1 h2,h⟩
theorem CU{fn:Func}{R:VL->WD->Prop}(E:Env n a env){r s t:ResultVar}(hr:fn.results= #[r,s,t]){v x y:VL}(h1:RV P w env r v)(h2:RV P w env s x)(h3:RV P w env t y)(h:R (.tuple #[v,x,y]) w):bodyPost P fn (Ret R) .ret a w:=
 ⟨E.defers,_,Xp hr E h1 h2 h3,h⟩
end
end Go.Cb

namespace Go.Cb
open Go.RowKit
/-- r follows from what R reads. -/
def DR(R:List Rp)(r:Rp):Prop:=∀ W ok,(∀ x,x ∈ R->x.p W ok)->r.p W ok
section
variable {P:Program} {os:List Ob} {rs R:List Rp} {w:WD}
theorem eT{r:Rp}(h:r ∈ R):DR R r:=λW ok k=>k r h
theorem DR.imp {r r':Rp} (h:DR R r) (k:∀ w ok,r.p w ok->r'.p w ok):DR R r':=λW ok hr=>k W ok (h W ok hr)
theorem DR.ir {r:Rp} (h:DR R r):IR (dL os R) r:=λW ⟨os',rs',H,_,h2⟩=>by
 obtain ⟨col,_,hr⟩:=H;exact ⟨_,h W _ λx hx=>hr x (h2 x hx)⟩
theorem Sep.dr (H:Sep w os rs) (hs:∀ x,x ∈ R->x ∈ rs) {r:Rp} (h:DR R r):Sep w os (r::rs):=by
 obtain ⟨col,h1,h2⟩:=H;refine ⟨col,h1,λx hx=>?_⟩;cases hx with
 | head=>exact h w _ λy hy=>h2 y (hs y hy)
 | tail _ hx=>exact h2 x hx
theorem Il(hI:dL os R w):∃ ok,∀ x,x ∈ R->x.p w ok:=by
 obtain ⟨os',rs',⟨col,_,hr⟩,_,h2⟩:=hI;exact ⟨_,λx hx=>hr x (h2 x hx)⟩
theorem pM{α β:Type}{A:Kd α}{B:Kd β}{q q':Addr}{x:α}{y:β}{cs:List VL}{F:List VL->List VL}(h:DR R (rAw A q x cs))(k:∀ w ok cs,(rAw A q x cs).p w ok->∃ c,(rAw B q' y c).p w ok/\c=F cs):DR R (rAw B q' y (F cs)):=λW ok hW=>by
 obtain ⟨c,hc,rfl⟩:=k W ok cs (h W ok hW);exact hc
theorem eU{t e:TI}{α:Type}{d:Kd α}{v:VL}{xs:List α}{flat:List VL}{k:IntKind}{j:Int}{y:α}(hI:dL os R w)(h:DR R (PS d v xs flat))(ht:P.underlying t=some (.slice e))(hs:(P.info? e).map (·.size)=some d.sz)(hj:idx xs j=some y) :
  ∃ q cs,(∀ W,(Instr.indexAt t v (.int k j)).run P W= .ok (.pointer (some q)) W)/\DR R (rAw d q y cs):=by
 unfold idx at hj;split at hj
 ·rename_i h0;have hlt:j.toNat < xs.length:=by
   rcases Nat.lt_or_ge j.toNat xs.length with h | h
   ·exact h
   rw [List.getElem?_eq_none h] at hj;cases hj
  have hne:xs ≠ []:=λe=>by rw [e] at hlt;simp at hlt
  obtain ⟨ok,hall⟩:=Il hI;obtain ⟨ad0,c,rfl,hr,hm⟩:=h w ok hall;obtain ⟨b,rfl,hok,hcell⟩:=hm hne;refine ⟨b.add (j.toNat * d.sz),(flat.drop (j.toNat * d.sz)).take d.sz,λW=>?_,λW ok' hW=>?_⟩
  ·have hlt':j < (xs.length:Int):=by omega
   simp [Instr.indexAt,asIntOf,Sem.run_bind,run_underlying ht,jN hs,h0,hlt']
  obtain ⟨ad',c',he,hr',hm'⟩:=h W ok' hW;obtain ⟨b',hb',hok',hcell'⟩:=hm' hne;cases he;cases hb';refine ⟨by rw [tD];exact hok',hr'.2 _ _ hj,λi u hu=>?_⟩;rw [add_add];refine hcell' _ u ?_;rw [List.getElem?_take] at hu;split at hu
  ·rw [List.getElem?_drop] at hu;exact hu
  cases hu
 cases hj
theorem FA{α:Type}{d:Kd α}{t:TI}{q:Addr}{ys:List α}{cs:List VL}{ds:TypeDesc}(hI:dL os R w)(h:DR R (rAw (kL d) q ys cs))(hu:P.underlying t=some ds)(hp:dM ds=true) :
  ∃ v,(∀ W,dL os R W->(Instr.loadAt t (.pointer (some q))).run P W= .ok v W)/\DR R (rSl d v ys):=by
 obtain ⟨ok,hall⟩:=Il hI;obtain ⟨_,⟨v,rfl,hv⟩,_⟩:=h w ok hall;refine ⟨v,λW hW=>?_,λW ok' hW=>?_⟩
 ·obtain ⟨ok',hall'⟩:=Il hW;obtain ⟨_,_,hc⟩:=h W ok' hall';exact Q9 hu hp (by have:=hc 0 v rfl;rwa [show q.add 0=q from by simp [Addr.add]] at this)
 obtain ⟨_,⟨v',he,hv'⟩,_⟩:=h W ok' hW;cases he;exact hv'
theorem BM{α:Type}{d:Kd α}{q:Addr}{y:α}{cs:List VL}(hI:dL os R w)(h:DR R (rAw d q y cs)):∃ ok,d.R w ok y cs:=by
 obtain ⟨ok,hall⟩:=Il hI;exact ⟨ok,(h w ok hall).2.1⟩
theorem FB{α β:Type}{d:Kd α}{e:Kd β}{q:Addr}{y:α}{cs:List VL}{v:VL}{ys:List β}(h:DR R (rAw d q y cs))(k:∀ w ok,d.R w ok y cs->Sl e w ok v ys):DR R (rSl e v ys):=λW ok hW=>k W ok (h W ok hW).2.1
theorem r9{α:Type}{d:Kd α}{q:Addr}{y:α}{cs:List VL}(h:DR R (rAw d q y cs)):DR R (rAt d q y):=h.imp PT
theorem FC{α:Type}{d:Kd α}{cs:List VL}{I:WD->Prop}{t:TI}{q:Addr}{y:α}{ds:TypeDesc}(hr:IR I (rAw d q y cs))(hu:P.underlying t=some ds)(hp:dM ds=false)(hs:(P.info? t).map (·.size)=some cs.length)(W:WD)(hW:I W):(Instr.loadAt t (.pointer (some q))).run P W= .ok (.agg cs.toArray) W:=by
 obtain ⟨ok,_,_,hc⟩:=hr W hW;exact Bq hu hp hs hc
end
end Go.Cb

namespace Go.Cb
open Go.RowKit
section
variable {P:Program} {w:WD} {d:Nat} {xs ys:Array VL} {f:Field} {fs:List Field} {a b:VL} {r s:Bool} {t:TI}
theorem V4{k:IntKind}{x y:Int}(hu:P.underlying t=some (.int k)):(Op.equalIn (d+1) t (.int k x) (.int k y)).run P w= .ok (x == y) w:=by
 simp [Op.equalIn,run_underlying hu]
theorem Cv{x y:ByteArray}(hu:P.underlying t=some .string):(Op.equalIn (d+1) t (.string x) (.string y)).run P w= .ok (sEq x y) w:=by
 simp only [sEq,← beq_toListBytes];simp [Op.equalIn,run_underlying hu]
theorem Im(hn:(f.name == "_")=false)(ha:(part f.type xs f.offset).run P w= .ok a w)(hb:(part f.type ys f.offset).run P w= .ok b w)(he:(Op.equalIn d f.type a b).run P w= .ok r w):(Op.eqFields d xs ys [f]).run P w= .ok r w:=by
 have hn':f.name ≠ "_":=by simpa using hn
 simp only [Op.eqFields,iP hn',Sem.run_bind,ha,hb,he,Result.andThen_ok];cases r <;> simp
theorem zP(hn:(f.name == "_")=false)(ha:(part f.type xs f.offset).run P w= .ok a w)(hb:(part f.type ys f.offset).run P w= .ok b w)(he:(Op.equalIn d f.type a b).run P w= .ok r w)(hr:(Op.eqFields d xs ys fs).run P w= .ok s w):(Op.eqFields d xs ys (f::fs)).run P w= .ok (r && s) w:=by
 have hn':f.name ≠ "_":=by simpa using hn
 rw [Op.eqFields];simp only [iP hn',Sem.run_bind,ha,hb,he,Result.andThen_ok];cases r
 ·simp
 simpa using hr
theorem Fd{gs:Array Field}(hu:P.underlying t=some (.struct gs))(hp:P.stoodInHeld t=false)(h:(Op.eqFields d xs ys gs.toList).run P w= .ok r w):(Op.equalIn (d+1) t (.agg xs) (.agg ys)).run P w= .ok r w:=by
 have hf:P.fieldsOf t=gs:=by simp [Program.fieldsOf,hu]
 rw [run_equalIn_struct (P:=P) w d t xs ys (by rw [hf];exact hu) hp,hf];exact h
theorem Rs{x y:Operand}(hg:P.eqGuardType P.depth t=false)(h:(Op.equalIn 10000 t (.agg xs) (.agg ys)).run P w= .ok r w):(do eqGuard .neq t x y (.agg xs) (.agg ys);binOp .neq t (.agg xs) (.agg ys):Sem VL).run P w= .ok (.bool (!r)) w:=by
 simp [eqGuard,hg,binOp,Op.equal,Op.maxDepth,h,Sem.run_bind]
end
end Go.Cb

namespace Go.Cb
open Go.RowKit
section
variable {P:Program} {ops:Array Oper} {Q:Exit->Act->WD->Prop} {rest:List Oper} {o:Oper} {w w':WD} {a:Act} {n:Nat} {env:List (Nat×VL)}
theorem sv(E:Env n a env)(hg:o.guard=none){d:Nat}(hd:o.dst=some d)(hdn:Nat.ble (d+1) n=true){v:VL}
  (hrun:(execOp a.eval o).run P w= .ok (.value v) w') (k:∀ a',Env n a' ((d,v)::env)->wpList P ops Q rest a' w'):wpList P ops Q (o::rest) a w:=eS E (wn hg) hd hdn hrun k
end
end Go.Cb

namespace Go.Cb
open Go.RowKit
section
variable {P:Program} {os:List Ob} {R:List Rp} {w:WD}
end
end Go.Cb

namespace Go.Cb
open Go.RowKit
/-- the orders: go i 0: it only reads or reckons; go i 1: it turns the world; go i 2: it turns it, and comes behind all that only read; alt: either first. -/
inductive OT where
 | nil
 | go (i k:Nat) (t:OT)
 | alt (i:Nat) (t:OT) (j:Nat) (u:OT)
 | alt3 (i:Nat) (t:OT) (j:Nat) (u:OT) (k:Nat) (v:OT)
section
variable {P:Program} {ops:Array Oper} {Q:Exit->Act->WD->Prop} {I:WD->Prop} {T:Nat->Bool}
def OT.ok (ops:Array Oper):OT->Array Bool->Bool
 | .nil,listed=>(Region.ready .any ops listed).isEmpty
 | .go i 0 t,listed=>(Region.ready .any ops listed).contains i && Region.free .any ops listed i && t.ok ops (listed.setIfInBounds i true)
 | .go i (_+1) t,listed=>(Region.ready .any ops listed == [i]) && t.ok ops (listed.setIfInBounds i true)
 | .alt i t j u,listed=>(Region.ready .any ops listed == [i,j]) && t.ok ops (listed.setIfInBounds i true) && u.ok ops (listed.setIfInBounds j true)
 | .alt3 i t j u k v,listed=>(Region.ready .any ops listed == [i,j,k]) && t.ok ops (listed.setIfInBounds i true) && u.ok ops (listed.setIfInBounds j true) && v.ok ops (listed.setIfInBounds k true)
def OT.len:OT->Nat->Bool
 | .nil,0=>true
 | .go _ _ t,m+1=>t.len m
 | .alt _ t _ u,m+1=>t.len m && u.len m
 | .alt3 _ t _ u _ v,m+1=>t.len m && u.len m && v.len m
 | _,_=>false
def OT.noFree:OT->Bool
 | .nil=>true
 | .go _ k t=>k != 0 && t.noFree
 | .alt _ t _ u=>t.noFree && u.noFree
 | .alt3 _ t _ u _ v=>t.noFree && u.noFree && v.noFree
def OT.tails (ops:Array Oper) (tl:List Nat):OT->Bool
 | .nil=>true
 | .go i 0 t=>!tl.contains i && ((List.range ops.size).all λj=>!tl.contains j || match ops[j]? with | some y=>y.after.any λe=>Region.binds .any e && e.on == i | none=>true) && t.tails ops tl
 | .go _ 1 t=>t.tails ops tl
 | .go i (k+2) t=>tl.contains i && t.noFree && t.tails ops tl
 | .alt _ t _ u=>t.tails ops tl && u.tails ops tl
 | .alt3 _ t _ u _ v=>t.tails ops tl && u.tails ops tl && v.tails ops tl
def sF(P:Program)(I:WD->Prop)(ops:Array Oper)(Q:Exit->Act->WD->Prop):OT->Act->WD->Prop
 | .nil,a,w=>Q .normal a w
 | .go i 0 t,a,w=>∃ o,ops[i]? =some o/\∃ v,Yl P I ops o v a/\sF P I ops Q t (a.put o.dst v) w
 | .go i 1 t,a,w=>∃ o,ops[i]? =some o/\wpList P ops (Exit.then (λa' w'=>I w'/\sF P I ops Q t a' w') Q) [o] a w
 | .go i (_+2) t,a,w=>∃ o,ops[i]? =some o/\wpList P ops (Exit.then (λa' w'=>sF P I ops Q t a' w') Q) [o] a w
 | .alt i t j u,a,w=>(∃ o,ops[i]? =some o/\wpList P ops (Exit.then (λa' w'=>I w'/\sF P I ops Q t a' w') Q) [o] a w)/\(∃ o,ops[j]? =some o/\wpList P ops (Exit.then (λa' w'=>I w'/\sF P I ops Q u a' w') Q) [o] a w)
 | .alt3 i t j u k v,a,w=>(∃ o,ops[i]? =some o/\wpList P ops (Exit.then (λa' w'=>I w'/\sF P I ops Q t a' w') Q) [o] a w)/\(∃ o,ops[j]? =some o/\wpList P ops (Exit.then (λa' w'=>I w'/\sF P I ops Q u a' w') Q) [o] a w)/\(∃ o,ops[k]? =some o/\wpList P ops (Exit.then (λa' w'=>I w'/\sF P I ops Q v a' w') Q) [o] a w)
theorem I8(tl:List Nat)(hs:Region.noSelect ops=true)(hQ:∀ c a w,Q (.panic c) a w->False):∀ (t:OT) (m:Nat) (listed:Array Bool) (a:Act) (w:WD),
  (t.noFree=true∨I w)->t.tails ops tl=true->t.len m=true->t.ok ops listed=true->sF P I ops Q t a w->Ak P I (λi=>tl.contains i) ops Q m listed a w
 | .nil,m,listed,a,w,_,_,hm,ho,h=>by
  cases m with
  | zero=>exact ⟨by simpa [OT.ok] using ho,h⟩
  | succ m=>cases hm
 | .go i 0 t,m,listed,a,w,hI,ht,hm,ho,h=>by
  cases m with
  | zero=>cases hm
  | succ m=>
   simp only [OT.ok,Bool.and_eq_true] at ho;obtain ⟨⟨hr,hf⟩,ho⟩:=ho;simp only [OT.tails,Bool.and_eq_true] at ht;obtain ⟨⟨ht1,ht2⟩,ht3⟩:=ht;obtain ⟨o,hi,v,hy,h⟩:=h;have hIw:I w:=hI.resolve_left (by simp [OT.noFree]);refine Kx hi (Region.noSelect_spec hs) hQ (λj y hj hTj=>?_) (by simpa using ht1) m listed a w (λj y hj hne hun hno=>Region.free_spec hi hf j y hj hne hun hno) (by simpa using hr) hIw hy
    (I8 tl hs hQ t m _ _ w (.inr hIw) ht3 hm ho h)
   have hq:=(List.all_eq_true.1 ht2) j (List.mem_range.2 (Array.getElem?_eq_some_iff.1 hj).1);rw [hTj,hj] at hq;simp only [Bool.not_true,Bool.false_or] at hq;obtain ⟨e,he,hb⟩:=Array.any_eq_true'.1 hq;simp only [Bool.and_eq_true,beq_iff_eq] at hb;exact ⟨e,he,hb⟩
 | .go i 1 t,m,listed,a,w,hI,ht,hm,ho,h=>by
  cases m with
  | zero=>cases hm
  | succ m=>
   simp only [OT.ok,Bool.and_eq_true,beq_iff_eq] at ho;obtain ⟨hr,ho⟩:=ho;obtain ⟨o,hi,h⟩:=h;refine ⟨λh0=>(by rw [hr] at h0;cases h0),λj hj=>?_⟩;rw [hr] at hj;simp at hj;subst hj;exact wpOp_mono (λa' w' h'=>⟨.inr h'.1,I8 tl hs hQ t m _ _ _ (.inr h'.1) ht hm ho h'.2⟩) (wZ hi h)
 | .go i (k+2) t,m,listed,a,w,hI,ht,hm,ho,h=>by
  cases m with
  | zero=>cases hm
  | succ m=>
   simp only [OT.ok,Bool.and_eq_true,beq_iff_eq] at ho;obtain ⟨hr,ho⟩:=ho;simp only [OT.tails,Bool.and_eq_true] at ht;obtain ⟨⟨ht1,ht2⟩,ht3⟩:=ht;obtain ⟨o,hi,h⟩:=h;refine ⟨λh0=>(by rw [hr] at h0;cases h0),λj hj=>?_⟩;rw [hr] at hj;simp at hj;subst hj;exact wpOp_mono (λa' w' h'=>⟨.inl ht1,I8 tl hs hQ t m _ _ _ (.inl ht2) ht3 hm ho h'⟩) (wZ hi h)
 | .alt i t j u,m,listed,a,w,hI,ht,hm,ho,h=>by
  cases m with
  | zero=>cases hm
  | succ m=>
   simp only [OT.ok,Bool.and_eq_true,beq_iff_eq] at ho;obtain ⟨⟨hr,ho1⟩,ho2⟩:=ho;simp only [OT.tails,Bool.and_eq_true] at ht;simp only [OT.len,Bool.and_eq_true] at hm;obtain ⟨⟨o1,hi1,h1⟩,⟨o2,hi2,h2⟩⟩:=h;refine ⟨λh0=>(by rw [hr] at h0;cases h0),λq hq=>?_⟩;rw [hr] at hq;rcases List.mem_cons.1 hq with rfl | hq
   ·exact wpOp_mono (λa' w' h'=>⟨.inr h'.1,I8 tl hs hQ t m _ _ _ (.inr h'.1) ht.1 hm.1 ho1 h'.2⟩) (wZ hi1 h1)
   rcases List.mem_cons.1 hq with rfl | hq
   ·exact wpOp_mono (λa' w' h'=>⟨.inr h'.1,I8 tl hs hQ u m _ _ _ (.inr h'.1) ht.2 hm.2 ho2 h'.2⟩) (wZ hi2 h2)
   cases hq
 | .alt3 i t j u k v,m,listed,a,w,hI,ht,hm,ho,h=>by
  cases m with
  | zero=>cases hm
  | succ m=>
   simp only [OT.ok,Bool.and_eq_true,beq_iff_eq] at ho;obtain ⟨⟨⟨hr,ho1⟩,ho2⟩,ho3⟩:=ho;simp only [OT.tails,Bool.and_eq_true] at ht;simp only [OT.len,Bool.and_eq_true] at hm;obtain ⟨⟨o1,hi1,h1⟩,⟨o2,hi2,h2⟩,⟨o3,hi3,h3⟩⟩:=h;refine ⟨λh0=>(by rw [hr] at h0;cases h0),λq hq=>?_⟩;rw [hr] at hq;rcases List.mem_cons.1 hq with rfl | hq
   ·exact wpOp_mono (λa' w' h'=>⟨.inr h'.1,I8 tl hs hQ t m _ _ _ (.inr h'.1) ht.1.1 hm.1.1 ho1 h'.2⟩) (wZ hi1 h1)
   rcases List.mem_cons.1 hq with rfl | hq
   ·exact wpOp_mono (λa' w' h'=>⟨.inr h'.1,I8 tl hs hQ u m _ _ _ (.inr h'.1) ht.1.2 hm.1.2 ho2 h'.2⟩) (wZ hi2 h2)
   rcases List.mem_cons.1 hq with rfl | hq
   ·exact wpOp_mono (λa' w' h'=>⟨.inr h'.1,I8 tl hs hQ v m _ _ _ (.inr h'.1) ht.2 hm.2 ho3 h'.2⟩) (wZ hi3 h3)
   cases hq
def OT.all (ops:Array Oper) (tl:List Nat) (t:OT):Bool:=Region.noSelect ops && t.ok ops (Array.replicate ops.size false) && t.len ops.size && t.tails ops tl
theorem nQ{id:Nat}{a:Act}{w:WD}(I:WD->Prop)(t:OT)(tl:List Nat)(hm:P.follows .mixedOrders=true)(ho:t.all ops tl=true)
  (hQ:∀ c a w,Q (.panic c) a w->False) (hI:I { w with drawn:=w.drawn+1 }) (h:sF P I ops Q t a { w with drawn:=w.drawn+1 }):(Code.region id ops true).wp P Q a w:=by
 simp only [OT.all,Bool.and_eq_true] at ho;obtain ⟨⟨⟨h1,h2⟩,h3⟩,h4⟩:=ho;exact wp_region_any hm (Do _ _ _ _ (I8 tl h1 hQ t ops.size _ a _ (.inr hI) h4 h3 h2 h))
variable {t u:OT} {o:Oper} {a:Act} {w:WD} {n:Nat} {env:List (Nat×VL)} {i j:Nat}
theorem cM(h:Q .normal a w):sF P I ops Q .nil a w:=h
theorem Rt(E:Env n a env)(hi:ops[i]? =some o)(hw:Region.wanted o (yielded ops a.tmps)=true){d:Nat}(hd:o.dst=some d)(hdn:Nat.ble (d+1) n=true){v:VL}
  (hrun:∀ w,I w->(execOp a.eval o).run P w= .ok (.value v) w) (k:∀ a',Env n a' ((d,v)::env)->sF P I ops Q t a' w):sF P I ops Q (.go i 0 t) a w:=
 ⟨o,hi,v,.inl ⟨hw,hrun⟩,by rw [hd];exact k _ (E.put d hdn v)⟩
theorem bG(hi:ops[i]? =some o)(h:wpList P ops (Exit.then (λa' w'=>I w'/\sF P I ops Q t a' w') Q) [o] a w):sF P I ops Q (.go i 1 t) a w:=⟨o,hi,h⟩
theorem bZ(hi:ops[i]? =some o)(h:wpList P ops (Exit.then (λa' w'=>sF P I ops Q t a' w') Q) [o] a w):sF P I ops Q (.go i 2 t) a w:=⟨o,hi,h⟩
theorem fU{o1 o2:Oper}(hi:ops[i]? =some o1)(hj:ops[j]? =some o2)(h1:wpList P ops (Exit.then (λa' w'=>I w'/\sF P I ops Q t a' w') Q) [o1] a w)(h2:wpList P ops (Exit.then (λa' w'=>I w'/\sF P I ops Q u a' w') Q) [o2] a w):sF P I ops Q (.alt i t j u) a w:=⟨⟨o1,hi,h1⟩,⟨o2,hj,h2⟩⟩
theorem Ac{v:OT}{k:Nat}{o1 o2 o3:Oper}(hi:ops[i]? =some o1)(hj:ops[j]? =some o2)(hk:ops[k]? =some o3)(h1:wpList P ops (Exit.then (λa' w'=>I w'/\sF P I ops Q t a' w') Q) [o1] a w)(h2:wpList P ops (Exit.then (λa' w'=>I w'/\sF P I ops Q u a' w') Q) [o2] a w)(h3:wpList P ops (Exit.then (λa' w'=>I w'/\sF P I ops Q v a' w') Q) [o3] a w):sF P I ops Q (.alt3 i t j u k v) a w:=⟨⟨o1,hi,h1⟩,⟨o2,hj,h2⟩,⟨o3,hk,h3⟩⟩
end
end Go.Cb

namespace Go.Cb
open Go.RowKit
/-- an object that is no cells. -/
def Fz(l:Nat)(o:Obj):Ob where
 p w own _:=own l/\w.heap[l]? =some o
 keep:=by
  rintro w w' own own' ok ok' ⟨h1,h2⟩ k ho _;have hb:l < w.heap.size:=(Array.getElem?_eq_some_iff.1 h2).1;exact ⟨ho l hb h1,(k.block l hb (.inl h1)).trans h2⟩
section
variable {w w':WD} {os os':List Ob} {rs:List Rp}
theorem Sep.objAt (H:Sep w os rs) {i l:Nat} {o:Obj} (hi:os[i]? =some (Fz l o)):w.heap[l]? =some o:=by
 obtain ⟨_,_,h⟩:=H.ob i hi;exact h.2
theorem Sep.newObj (H:Sep w os rs) (o:Obj):Sep (w.alloc o) (Fz w.heap.size o::os) rs:=
 H.new (Kp.alloc _ w _) λok _=>⟨Nat.le_refl _,heap_alloc_new w _⟩
theorem Sep.put (H:Sep w os rs) {i l:Nat} {o:Obj} (hi:os[i]? =some (Fz l o)) (o':Obj):Sep (w.putObj l o') (os.set i (Fz l o')) rs:=by
 refine H.upd i hi λown ok _ ho=>⟨⟨rfl,rfl,rfl,by simp,λb hb hn=>?_⟩,.inl ho.1,World.putObj_heap_same (Array.getElem?_eq_some_iff.1 ho.2).1⟩
 exact World.putObj_heap_other λe=>hn (by rw [e];exact ho.1)
end
section
variable {P:Program} {ops:Array Oper} {Q:Exit->Act->WD->Prop} {rest:List Oper} {o:Oper} {w:WD} {a:Act} {n:Nat} {env:List (Nat×VL)} {os:List Ob} {rs:List Rp}
theorem Vc(E:Env n a env)(H:Sep w os rs)(hw:Region.wanted o (yielded ops a.tmps)=true){dd:Nat}(hd:o.dst=some dd)(hdn:Nat.ble (dd+1) n=true){t:TI}{x:Operand}{s:ByteArray}(ho:o.op= .range t x)(hx:opv env x=some (.string s))(ht:P.underlying t=some .string)
  (k:∀ q w' a',Sep w' (Fz q (.stringIter s 0)::os) rs->Env n a' ((dd,.pointer (some ⟨q,0,none⟩))::env)->wpList P ops Q rest a' w'):wpList P ops Q (o::rest) a w:=by
 refine eS E hw hd hdn (v:=.pointer (some ⟨w.heap.size,0,none⟩)) (w':=w.alloc (.stringIter s 0)) ?_ λa' E'=>k _ _ a' (H.newObj _) E';simp only [execOp,ho,E.eval hx];simp [Sem.run_bind,Instr.range,run_underlying ht,newObj,Sem.run,Result.andThen]
theorem Vd{i q pos:Nat}{s:ByteArray}(E:Env n a env)(H:Sep w os rs)(hw:Region.wanted o (yielded ops a.tmps)=true){dd:Nat}(hd:o.dst=some dd)(hdn:Nat.ble (dd+1) n=true){x:Operand}(ho:o.op= .next x true)(hx:opv env x=some (.pointer (some ⟨q,0,none⟩)))
  (hi:os[i]? =some (Fz q (.stringIter s pos))) (hlt:decide (pos < s.size)=true)
  (k:∀ w' a',Sep w' (os.set i (Fz q (.stringIter s (pos+(Utf8.decode s pos).2)))) rs->Env n a' ((dd,.tuple #[.bool true,.int .i64 (pos:Int),.int .i32 ((Utf8.decode s pos).1:Int)])::env)->wpList P ops Q rest a' w'):wpList P ops Q (o::rest) a w:=by
 refine eS E hw hd hdn (w':=w.putObj q (.stringIter s (pos+(Utf8.decode s pos).2))) ?_ λa' E'=>k _ a' (H.put hi _) E';have h:=H.objAt hi;simp only [execOp,ho,E.eval hx];simp [Sem.run_bind,Instr.next,getObj,setObj,Sem.run,h,Result.andThen,of_decide_eq_true hlt,World.putObj,goInt]
theorem Ve{i q pos:Nat}{s:ByteArray}(E:Env n a env)(H:Sep w os rs)(hw:Region.wanted o (yielded ops a.tmps)=true){dd:Nat}(hd:o.dst=some dd)(hdn:Nat.ble (dd+1) n=true){x:Operand}(ho:o.op= .next x true)(hx:opv env x=some (.pointer (some ⟨q,0,none⟩)))
  (hi:os[i]? =some (Fz q (.stringIter s pos))) (hlt:decide (pos < s.size)=false)
  (k:∀ a',Env n a' ((dd,.tuple #[.bool false])::env)->wpList P ops Q rest a' w):wpList P ops Q (o::rest) a w:=by
 refine eS E hw hd hdn ?_ k;have h:=H.objAt hi;simp only [execOp,ho,E.eval hx];simp [Sem.run_bind,Instr.next,getObj,setObj,Sem.run,h,Result.andThen,of_decide_eq_false hlt]
end
end Go.Cb

namespace Go.Cb
open Go.RowKit
/-- a kind of data that lies in its own cells alone. -/
structure iF {α:Type} (d:Kd α) where
 enc:α->List VL
 open':∀ {w:WD} {ok:Nat->Prop} {x:α} {cs:List VL},d.R w ok x cs->cs=enc x
 mk':∀ {w:WD} {ok:Nat->Prop} {x:α},d.R w ok x (enc x)
section
variable {α:Type} {d:Kd α} {w:WD} {os:List Ob} {rs:List Rp}
theorem iF.len (F:iF d) (x:α):(F.enc x).length=d.sz:=d.len (F.mk' (w:=default) (ok:=λ_=>True))
theorem W8{xs:List α}{j:Int}{y:α}(h:idx xs j=some y):0 <= j/\j.toNat < xs.length/\xs[j.toNat]? =some y:=by
 unfold idx at h;split at h
 ·rename_i h0;exact ⟨h0,(List.getElem?_eq_some_iff.1 h).1,h⟩
 cases h
theorem Sep.rowformNE (H:Sep w os rs) {i:Nat} {e:TI} {v:VL} {xs:List α} (hi:os[i]? =some (Row e d v xs)) {j:Int} {y:α} (hj:idx xs j=some y):∃ g c,v= .slice (some ⟨g,0,none⟩) xs.length c:=by
 obtain ⟨_,_,flat,⟨_,h⟩,_⟩:=H.ob i hi;rcases h with ⟨_,h0⟩ | ⟨g,cap,cur,rfl,_⟩
 ·have:=(W8 hj).2.1;omega
 exact ⟨g,cap,rfl⟩
theorem Fe(H:Sep w os rs)(F:iF d){i:Nat}{e:TI}{g n c:Nat}{xs:List α}(hi:os[i]? =some (Row e d (.slice (some ⟨g,0,none⟩) n c) xs)){j:Int}{y:α}(hj:idx xs j=some y){k:Nat}{u:VL}(hk:(F.enc y)[k]? =some u):w.cell? ⟨g,j.toNat * d.sz+k,none⟩=some u:=by
 obtain ⟨_,_,flat,⟨hl,h⟩,hr,_⟩:=H.ob i hi;obtain ⟨_,hlt,hy⟩:=W8 hj;rcases h with ⟨h,_⟩ | ⟨g',cap,cur,hv,_,hh,hn,_,hs,ht⟩
 ·cases h
 cases hv;have h1:=F.open' (hr.2 _ _ hy);have hke:k < d.sz:=by rw [← F.len y];exact (List.getElem?_eq_some_iff.1 hk).1
 rw [cell_of_row w g (j.toNat * d.sz+k) cur e _ hh];rw [← h1,List.getElem?_take,iP hke,List.getElem?_drop,← ht,List.getElem?_take] at hk;split at hk
 ·simpa using hk
 cases hk
variable {P:Program} {ops:Array Oper} {Q:Exit->Act->WD->Prop} {rest:List Oper} {o:Oper} {a:Act} {n:Nat} {env:List (Nat×VL)}
theorem LS(E:Env n a env){t e:TI}{x ix:Operand}{g m c:Nat}{kk:IntKind}{j:Int}{xs:List α}{y:α}(ho:o.op= .indexAddr t x ix)(hx:opv env x=some (.slice (some ⟨g,0,none⟩) m c))(hi:opv env ix=some (.int kk j))(hm:xs.length=m)
  (ht:P.underlying t=some (.slice e)) (hs:(P.info? e).map (·.size)=some d.sz) (hj:idx xs j=some y):(execOp a.eval o).run P w= .ok (.value (.pointer (some ⟨g,j.toNat * d.sz,none⟩))) w:=by
 obtain ⟨h0,hlt,_⟩:=W8 hj;have hlt':j < (m:Int):=by omega
 simp only [execOp,ho,E.eval hx,E.eval hi];simp [Sem.run_bind,Instr.indexAt,asIntOf,run_underlying ht,jN hs,h0,hlt',Addr.add];intro h;exact h.symm
theorem LT(E:Env n a env)(H:Sep w os rs)(F:iF d){x:Operand}{t:TI}{i:Nat}{e:TI}{g m c k:Nat}{xs:List α}{j:Int}{y:α}{u:VL}{ds:TypeDesc}(ho:o.op= .load t x)(hx:opv env x=some (.pointer (some ⟨g,j.toNat * d.sz+k,none⟩)))
  (hi:os[i]? =some (Row e d (.slice (some ⟨g,0,none⟩) m c) xs)) (hj:idx xs j=some y) (hk:(F.enc y)[k]? =some u) (hu:P.underlying t=some ds) (hp:dM ds=true):(execOp a.eval o).run P w= .ok (.value u) w:=
 kT E ho hx (Q9 hu hp (Fe H F hi hj hk))
theorem HY(E:Env n a env)(H:Sep w os rs)(F:iF d){x:Operand}{t:TI}{i:Nat}{e:TI}{g m c:Nat}{xs:List α}{j:Int}{y:α}{us:List VL}{ds:TypeDesc}(ho:o.op= .load t x)(hx:opv env x=some (.pointer (some ⟨g,j.toNat * d.sz,none⟩)))
  (hi:os[i]? =some (Row e d (.slice (some ⟨g,0,none⟩) m c) xs)) (hj:idx xs j=some y) (hk:F.enc y=us) (hu:P.underlying t=some ds) (hp:dM ds=false) (hs:(P.info? t).map (·.size)=some us.length):(execOp a.eval o).run P w= .ok (.value (.agg us.toArray)) w:=by
 refine kT E ho hx (Bq hu hp hs λq u hq=>?_);subst hk;rw [qG];exact Fe H F hi hj hq
end
section
variable {α:Type} {d:Kd α} {os:List Ob} {rs:List Rp}
theorem HZ(F:iF d){w:WD}{ok:Nat->Prop}{xs:List α}{flat:List VL}(h:Rows d w ok xs flat){i:Nat}{y y':α}(hi:xs[i]? =some y){k:Nat}{u:VL}(he:F.enc y'=(F.enc y).set k u)(hk:k < d.sz):Rows d w ok (xs.set i y') (flat.set (i * d.sz+k) u):=by
 have hil:=(List.getElem?_eq_some_iff.1 hi).1;refine ⟨by rw [List.length_set,List.length_set];exact h.1,λq x hq=>?_⟩;by_cases e:i=q
 ·subst e;rw [List.getElem?_set_self hil] at hq;cases hq;have h1:=F.open' (h.2 _ _ hi);have:((flat.set (i * d.sz+k) u).drop (i * d.sz)).take d.sz=F.enc y':=by
   rw [he,← h1];apply List.ext_getElem?;intro z;by_cases hz:z < d.sz
   ·rw [List.getElem?_take,iP hz,List.getElem?_drop];by_cases e:k=z
    ·subst e;have hlen:i * d.sz+k < flat.length:=by
      rw [h.1]
      calc i * d.sz+k < i * d.sz+d.sz:=by omega
       _=(i+1) * d.sz:=by rw [Nat.add_mul,Nat.one_mul]
       _ <= xs.length * d.sz:=Nat.mul_le_mul_right _ hil
     rw [List.getElem?_set_self hlen,List.getElem?_set_self (by rw [List.length_take,List.length_drop];omega)]
    rw [List.getElem?_set_ne (by omega),List.getElem?_set_ne e,List.getElem?_take,iP hz,List.getElem?_drop]
   rw [List.getElem?_eq_none (by rw [List.length_take];omega),List.getElem?_eq_none (by rw [List.length_set,List.length_take];omega)]
  rw [this];exact F.mk'
 rw [List.getElem?_set_ne e] at hq;have:=h.2 _ _ hq;have e2:((flat.set (i * d.sz+k) u).drop (q * d.sz)).take d.sz=(flat.drop (q * d.sz)).take d.sz:=by
  apply List.ext_getElem?;intro z;rw [List.getElem?_take,List.getElem?_take];split
  ·rename_i hz;rw [List.getElem?_drop,List.getElem?_drop,List.getElem?_set_ne];intro e3;rcases Nat.lt_or_ge i q with h4 | h4
   ·have:(i+1) * d.sz <= q * d.sz:=Nat.mul_le_mul_right _ h4;rw [Nat.add_mul,Nat.one_mul] at this;omega
   have:(q+1) * d.sz <= i * d.sz:=Nat.mul_le_mul_right _ (by omega);rw [Nat.add_mul,Nat.one_mul] at this;omega
  rfl
 rw [e2];exact this
theorem Rows.flat (F:iF d) {w w':WD} {ok ok':Nat->Prop} {xs:List α} {f:List VL} (h:Rows d w ok xs f):Rows d w' ok' xs f:=
 ⟨h.1,λi x hx=>by rw [F.open' (h.2 i x hx)];exact F.mk'⟩
theorem Sep.rowSet (F:iF d) {w:WD} (H:Sep w os rs) {i:Nat} {e:TI} {g n c:Nat} {xs:List α} (hi:os[i]? =some (Row e d (.slice (some ⟨g,0,none⟩) n c) xs)) {j:Nat} {y y':α} (hj:xs[j]? =some y) {k:Nat} {u:VL} (he:F.enc y'=(F.enc y).set k u) (hk:k < d.sz) :
  Sep (w.setCell ⟨g,j * d.sz+k,none⟩ u) (os.set i (Row e d (.slice (some ⟨g,0,none⟩) n c) (xs.set j y'))) rs:=by
 refine H.upd i hi λown ok _ ⟨flat,⟨hl,h⟩,hr,ho⟩=>⟨(Kp.setCell w ⟨g,j * d.sz+k,none⟩ u).mono λb _ hb e=>hb (by rw [e];exact ho g rfl),?_⟩
 rcases h with ⟨h,_⟩ | ⟨g',cap,cur,hv,hb,hh,hn,hcap,hs,ht⟩
 ·cases h
 cases hv;have hjl:=(List.getElem?_eq_some_iff.1 hj).1;refine ⟨flat.set (j * d.sz+k) u,?_,(HZ F hr hj he hk).flat F,λg hg=>.inl (ho g hg)⟩;show World.ownsRow _ 0 e d.sz _ (xs.set j y').length _;rw [List.length_set];refine ⟨by rw [List.length_set];exact hl,.inr ⟨g,c,cur.setIfInBounds (j * d.sz+k) u,rfl,hb,?_,hn,hcap,by simp [hs],?_⟩⟩
 ·simp [World.setCell,Array.getElem?_modify,hh]
 rw [← ht];simp [List.take_set]
end
end Go.Cb

namespace Go.Cb
open Go.RowKit
section
variable {P:Program} {o:Oper} {w:WD} {a:Act} {n:Nat} {env:List (Nat×VL)}
theorem Xq{f:FuncId}{fn:Func}{e:Array VL->Sem VL}{args:Array VL}{v:VL}(hf:P.funcs[f]? =some fn)(hn:(fn.name == "runtime.NumGoroutine")=false)(hb:fn.body.isNone=true)(h1:(Extern.findNext fn).isNone=true)(h2:Extern.find fn=some e)
  (hv:(e args).run P w= .ok v w):(callFunc f args).run P w= .ok (.value v) w:=by
 have h3:Extern.findNext fn=none:=by cases h:Extern.findNext fn with | none=>rfl | some _=>rw [h] at h1;cases h1
 have hn':¬ fn.name= "runtime.NumGoroutine":=by simpa using hn
 have hb':fn.body=none:=by simpa using hb
 unfold callFunc;simp [Sem.run_bind,hf,hn',hb',h2,h3,hv,mark,Result.andThen,Sem.run]
theorem Nl(E:Env n a env){f:FuncId}{xs:List Operand}{ts:Array TI}{vs:List VL}{v:VL}(ho:o.op= .call { callee:=.value (.func f),args:=xs.toArray,argTypes:=ts })(hx:Ai env xs=some vs)
  (hcf:(callFunc f vs.toArray).run P w= .ok (.value v) w):(execOp a.eval o).run P w= .ok (.value v) w:=by
 have hE:=E.evals hx;simp only [execOp,ho];simp only [resolve,hE,Sem.run_bind];simp [Deferred.ofValue,invoke,hcf,Result.andThen,Sem.run,Act.eval]
/-- where a byte stands first. -/
def ixB(s:ByteArray)(c:Int):Int:=match (List.range s.size).find? λi=>s[i]! == c.toNat.toUInt8 with
 | some i=>(i:Int)
 | none=>-1
theorem LU(s:ByteArray)(c:Int)(w:WD):(Extern.BytealgIndexByte.indexByte #[.string s,.int .u8 c]).run P w= .ok (.int .i64 (ixB s c)) w:=by
 have e:Extern.BytealgIndexByte.indexByte #[.string s,.int .u8 c]=(do
   let b ← Extern.Bytes.bytesOf (.string s)
   let c ← Extern.Bytes.asByte (.int .u8 c)
   match (List.range b.size).find? λi=>b[i]! == c with
   | some i=>pure (goInt i)
   | none=>pure (goInt (-1))):=rfl
 rw [e];unfold ixB;simp only [Extern.Bytes.bytesOf,Extern.Bytes.asByte,Sem.run_bind,Sem.run_pure,Result.andThen];split <;> simp_all [goInt]
theorem IA(s t:ByteArray)(w:WD):(Extern.BytealgCompare.compare #[.string s,.string t]).run P w= .ok (.int .i64 (Extern.BytealgCompare.cmp s t)) w:=by
 have e:Extern.BytealgCompare.compare #[.string s,.string t]=(do pure (goInt (Extern.BytealgCompare.cmp (← Extern.Bytes.bytesOf (.string s)) (← Extern.Bytes.bytesOf (.string t))))):=rfl;rw [e];simp [Extern.Bytes.bytesOf,Sem.run_bind,Result.andThen,goInt]
end
section
variable {Q:Exit->Act->WD->Prop} {a:Act} {w:WD}
theorem IB(h:Q .ret a w):Exit.noGoto Q .ret a w:=h
end
end Go.Cb

namespace Go.Cb
open Go.RowKit
section
variable {P:Program} {w:WD} {os:List Ob} {rs:List Rp} {k e t:TI} {b n:Nat} {f:List UInt8->Int}
theorem Eb{z:VL}(hz:(P.info? e).bind (·.zero)=some z)(w:WD):(zeroValue e).run P w= .ok z w:=by
 obtain ⟨i,hi,hzz⟩:=Option.bind_eq_some_iff.1 hz;simp [zeroValue,typeInfo,Sem.run_bind,hi,hzz]
end
section
variable {P:Program} {ops:Array Oper} {Q:Exit->Act->WD->Prop} {rest:List Oper} {o:Oper} {w:WD} {a:Act} {n:Nat} {env:List (Nat×VL)} {os:List Ob} {rs:List Rp} {k e t:TI} {b m:Nat} {f:List UInt8->Int}
end
end Go.Cb

namespace Go.Cb
open Go.RowKit
section
variable {P:Program} {o:Oper} {w:WD} {a:Act} {n:Nat} {env:List (Nat×VL)}
theorem LV(E:Env n a env){x i:Operand}{t e:TI}{m:Nat}{vs:List VL}{k:IntKind}{j:Int}{v:VL}{d:TypeDesc}(ho:o.op= .index t x i)(hx:opv env x=some (.agg vs.toArray))(hi:opv env i=some (.int k j))(ht:P.underlying t=some (.array m e))(hm:vs.length=m)
  (hs:(P.info? e).map (·.size)=some 1) (he:P.underlying e=some d) (hp:dM d=true) (hj:idx vs j=some v):(execOp a.eval o).run P w= .ok (.value v) w:=by
 obtain ⟨h0,hlt,hv⟩:=(show 0 <= j/\j.toNat < vs.length/\vs[j.toNat]? =some v from by
  unfold idx at hj;split at hj
  ·rename_i h0;exact ⟨h0,(List.getElem?_eq_some_iff.1 hj).1,hj⟩
  cases hj)
 have hlt':j < (m:Int):=by omega
 have hpart:(part e vs.toArray j.toNat).run P w= .ok v w:=by
  unfold part;simp [Sem.run_bind,Pe he hp,hv]
 simp only [execOp,ho,E.eval hx,E.eval hi];simp [Sem.run_bind,Instr.index,asIntOf,run_underlying ht,jN hs,h0,hlt',hpart]
theorem LW{α β:Type}(f:α->β){xs:List α}{j:Int}{y:α}(h:idx xs j=some y):idx (xs.map f) j=some (f y):=by
 unfold idx at *;split at h
 ·rename_i h0;rw [iP h0,List.getElem?_map,h];rfl
 cases h
end
end Go.Cb

namespace Go.Cb
open Go.RowKit
section
variable {P:Program} {ops:Array Oper} {Q:Exit->Act->WD->Prop} {rest:List Oper} {o:Oper} {w:WD} {a:Act} {n:Nat} {env:List (Nat×VL)} {os:List Ob} {rs:List Rp}
theorem IC{α:Type}{d:Kd α}(E:Env n a env)(H:Sep w os rs)(F:iF d)(hw:Region.wanted o (yielded ops a.tmps)=true)(hd:o.dst=none){x y:Operand}{t:TI}{i:Nat}{e:TI}{g m c k:Nat}{xs:List α}{j:Int}{z z':α}{u:VL}(ho:o.op= .store t x y)(hx:opv env x=some (.pointer (some ⟨g,j.toNat * d.sz+k,none⟩)))(hy:opv env y=some u)
  (hu:u.cells= [u].toArray) (h1:u.oneCell'=true) (hi:os[i]? =some (Row e d (.slice (some ⟨g,0,none⟩) m c) xs)) (hj:idx xs j=some z) (he:F.enc z'=(F.enc z).set k u) (hk:Nat.ble (k+1) d.sz=true) (hs:(P.info? t).map (·.size)=some 1)
  (K:∀ w',Sep w' (os.set i (Row e d (.slice (some ⟨g,0,none⟩) m c) (xs.set j.toNat z'))) rs->wpList P ops Q rest a w'):wpList P ops Q (o::rest) a w:=by
 have hk':k < d.sz:=Nat.le_of_ble_eq_true hk;have hkl:k < (F.enc z).length:=by rw [F.len];exact hk'
 obtain ⟨v0,hv0⟩:∃ v0,(F.enc z)[k]? =some v0:=⟨_,List.getElem?_eq_getElem hkl⟩
 have hcell:=Fe H F hi hj hv0;have hfr:w.frozen? ⟨g,j.toNat * d.sz+k,none⟩=false:=by
  obtain ⟨_,_,flat,⟨_,h⟩,_⟩:=H.ob i hi;rcases h with ⟨h,_⟩ | ⟨g',cap,cur,hv,_,hh,_⟩
  ·cases h
  cases hv;simp [World.frozen?,hh]
 have H':=H.rowSet F hi (W8 hj).2.2 he hk';refine Bo E hw hd (w':=w.setCell ⟨g,j.toNat * d.sz+k,none⟩ u) ?_ (K _ H');have hrun:(storeCells ⟨g,j.toNat * d.sz+k,none⟩ [u] 0).run P w= .ok () (w.setCell ⟨g,j.toNat * d.sz+k,none⟩ u):=by
  have hadd:(⟨g,j.toNat * d.sz+k,none⟩:Addr).add 0= ⟨g,j.toNat * d.sz+k,none⟩:=qG g _ 0;simp only [storeCells,Sem.run_bind,hadd];rw [run_store P w _ u _ h1,hcell];simp only [hfr];simp [Result.andThen]
 simp only [execOp,ho,E.eval hx,E.eval hy];simp [Sem.run_bind,Instr.storeAt,Instr.sureAddr,storeVar,jN hs,hu,hrun]
end
end Go.Cb

namespace Go.Cb
open Go.RowKit
section
variable {α:Type} {d:Kd α}
def iF.encs (F:iF d) (xs:List α):List VL:=xs.flatMap F.enc
theorem iF.encs_len (F:iF d):∀ xs:List α,(F.encs xs).length=xs.length * d.sz
 | []=>by simp [iF.encs]
 | x::xs=>by
  have:=F.encs_len xs;unfold iF.encs at *;rw [List.flatMap_cons,List.length_append,F.len,this,List.length_cons,Nat.add_mul,Nat.one_mul];omega
theorem iF.encs_app (F:iF d) (xs ys:List α):F.encs (xs ++ ys)=F.encs xs ++ F.encs ys:=by simp [iF.encs]
theorem iF.encs_one (F:iF d) (x:α):F.encs [x]=F.enc x:=by simp [iF.encs]
theorem iF.encs_take (F:iF d) (xs:List α) (i:Nat) (hi:i <= xs.length):(F.encs xs).take (i * d.sz)=F.encs (xs.take i):=by
 conv=>lhs;rw [← List.take_append_drop i xs,F.encs_app]
 rw [List.take_append_of_le_length (by rw [F.encs_len,List.length_take];simp [hi])];exact List.take_of_length_le (by rw [F.encs_len,List.length_take];simp [hi])
theorem iF.encs_drop (F:iF d) (xs:List α) (i:Nat) (hi:i <= xs.length):(F.encs xs).drop (i * d.sz)=F.encs (xs.drop i):=by
 conv=>lhs;rw [← List.take_append_drop i xs,F.encs_app]
 rw [List.drop_append_of_le_length (by rw [F.encs_len,List.length_take];simp [hi]),List.drop_eq_nil_of_le (by rw [F.encs_len,List.length_take];simp [hi]),List.nil_append]
theorem La(F:iF d){w:WD}{ok:Nat->Prop}(xs:List α):Rows d w ok xs (F.encs xs):=by
 refine ⟨F.encs_len xs,λi x hx=>?_⟩;have hi:=(List.getElem?_eq_some_iff.1 hx).1;rw [F.encs_drop xs i (by omega),List.drop_eq_getElem_cons hi];have e:xs[i]=x:=(List.getElem?_eq_some_iff.1 hx).2;unfold iF.encs;rw [List.flatMap_cons,e,List.take_append_of_le_length (by rw [F.len];exact Nat.le_refl _),List.take_of_length_le (by rw [F.len];exact Nat.le_refl _)];exact F.mk'
theorem FD(F:iF d){w:WD}{ok:Nat->Prop}{xs:List α}{f:List VL}(h:Rows d w ok xs f):f=F.encs xs:=by
 have h2:Rows d w ok xs (F.encs xs):=La F xs;apply List.ext_getElem?;intro j;by_cases hj:j < xs.length * d.sz
 ·have hp:=d.pos;have hq:j / d.sz < xs.length:=by rw [Nat.div_lt_iff_lt_mul hp];exact hj
  have e1:=F.open' (h.2 _ _ (List.getElem?_eq_getElem hq));have e2:=F.open' (h2.2 _ _ (List.getElem?_eq_getElem hq));have hr:j % d.sz < d.sz:=Nat.mod_lt _ hp;have hjj:j / d.sz * d.sz+j % d.sz=j:=by rw [Nat.mul_comm];exact Nat.div_add_mod _ _
  have a1:=congrArg (λl:List VL=>l[j % d.sz]?) (e1.trans e2.symm);simp only [List.getElem?_take,iP hr,List.getElem?_drop,hjj] at a1;exact a1
 rw [List.getElem?_eq_none (by rw [h.1];omega),List.getElem?_eq_none (by rw [F.encs_len];omega)]
end
section
variable {α:Type} {d:Kd α} {w:WD} {os:List Ob} {rs:List Rp} {i g n c:Nat} {e:TI} {xs:List α}
theorem Sep.rowBlk (F:iF d) (H:Sep w os rs) (hi:os[i]? =some (Row e d (.slice (some ⟨g,0,none⟩) n c) xs)) :
  ∃ cs:List VL,Sep w (os.set i (Blk g e cs)) rs/\xs.length=n/\n <= c/\c <= maxLen/\cs.length=c * d.sz/\cs.take (n * d.sz)=F.encs xs:=by
 obtain ⟨_,_,flat,⟨hl,h⟩,hr,_⟩:=H.ob i hi;rcases h with ⟨h,_⟩ | ⟨g',cap,cur,hv,_,hh,hn,hcap,hs,ht⟩
 ·cases h
 cases hv;refine ⟨cur.toList,?_,rfl,hn,hcap,by simpa using hs,by rw [ht];exact FD F hr⟩;refine H.upd i hi λown ok _ ⟨_,_,_,ho⟩=>⟨Kp.refl _ _,.inl (ho g rfl),?_⟩
 simpa using hh
theorem Sep.blkRow (F:iF d) (H:Sep w os rs) {cs:List VL} (hi:os[i]? =some (Blk g e cs)) (hx:xs.length=n) (hn:n <= c) (hc:c <= maxLen) (hl:cs.length=c * d.sz) (ht:cs.take (n * d.sz)=F.encs xs) :
  Sep w (os.set i (Row e d (.slice (some ⟨g,0,none⟩) n c) xs)) rs:=by
 subst hx;refine H.upd i hi λown ok _ ho=>⟨Kp.refl _ _,F.encs xs,⟨F.encs_len xs,.inr ⟨g,c,cs.toArray,rfl,Nat.zero_le _,ho.2,hn,hc,by simpa using hl,by simpa using ht⟩⟩,La F xs,λg' hg=>?_⟩
 cases hg;exact .inl ho.1
theorem xB:∀ (us cs:List VL) (j:Nat),j+us.length <= cs.length->cE cs j us=cs.take j ++ us ++ cs.drop (j+us.length)
 | [],cs,j,h=>by simp [cE]
 | u::us,cs,j,h=>by
  simp at h;rw [cE,xB us (cs.set j u) (j+1) (by simp;omega)];have e1:(cs.set j u).take (j+1)=cs.take j ++ [u]:=by
   rw [List.set_eq_take_append_cons_drop,iP (by omega),List.take_append,List.take_of_length_le (by rw [List.length_take];omega),List.length_take,show j+1 - min j cs.length=1 from by omega];rfl
  have e2:(cs.set j u).drop (j+1+us.length)=cs.drop (j+1+us.length):=List.drop_set_of_lt (by omega);rw [e1,e2,show j+(u::us).length=j+1+us.length from by simp;omega];simp
end
end Go.Cb

namespace Go.Cb
open Go.RowKit
section
variable {P:Program} {ops:Array Oper} {Q:Exit->Act->WD->Prop} {rest:List Oper} {o:Oper} {w:WD} {a:Act} {n:Nat} {env:List (Nat×VL)} {os:List Ob} {rs:List Rp}
theorem Nm(E:Env n a env)(H:Sep w os rs)(hw:Region.wanted o (yielded ops a.tmps)=true){dd:Nat}(hd:o.dst=some dd)(hdn:Nat.ble (dd+1) n=true){x y:Operand}{t e T:TI}{g off dl dc sl sc sz m i:Nat}{q:Addr}{cs us:List VL}
  (ho:o.op= .call { callee:=.builtin .copy,args:=#[x,y],argTypes:=#[t,t] }) (hx:opv env x=some (.slice (some ⟨g,off,none⟩) dl dc)) (hy:opv env y=some (.slice (some q) sl sc)) (ht:P.underlying t=some (.slice e)) (hs:(P.info? e).map (·.size)=some sz)
  (hi:os[i]? =some (Blk g T cs)) (hn:min sl dl=m) (hl:us.length=m * sz) (hu:∀ j u,us[j]? =some u->w.cell? (q.add j)=some u) (hf:off+us.length <= cs.length) (h1:∀ u ∈ us,u.oneCell'=true)
  (K:∀ w' a',Sep w' (os.set i (Blk g T (cE cs off us))) rs->Env n a' ((dd,.int .i64 (m:Int))::env)->wpList P ops Q rest a' w'):wpList P ops Q (o::rest) a w:=by
 obtain ⟨w',hr,H'⟩:=Sep.store P us H hi off 0 (by omega) h1;refine eS E hw hd hdn (v:=.int .i64 (m:Int)) (w':=w') ?_ λa' E'=>K w' a' H' E';have hld:=run_loadCells_list (P:=P) w q us hu;rw [hl] at hld;have hn':Nat.min sl dl=m:=hn;simp only [execOp,ho];simp [Sem.run_bind,resolve,invoke,builtin,E.eval hx,E.eval hy,Builtin.copy_,run_underlying ht,jN hs,Builtin.lenOf,Builtin.firstCells,hn',hld,hr,goInt]
theorem FE(E:Env n a env)(H:Sep w os rs)(hw:Region.wanted o (yielded ops a.tmps)=true)(hd:o.dst=none){x:Operand}{t e T:TI}{g off m dc i:Nat}{z:VL}{cs us:List VL}
  (ho:o.op= .call { callee:=.builtin .clear,args:=#[x],argTypes:=#[t] }) (hx:opv env x=some (.slice (some ⟨g,off,none⟩) m dc)) (hm:m ≠ 0) (ht:P.underlying t=some (.slice e)) (hz:(P.info? e).bind (·.zero)=some z)
  (hi:os[i]? =some (Blk g T cs)) (hu:(Builtin.zeroCells z.cells m).toList=us) (hf:off+us.length <= cs.length) (h1:∀ u ∈ us,u.oneCell'=true)
  (K:∀ w',Sep w' (os.set i (Blk g T (cE cs off us))) rs->wpList P ops Q rest a w'):wpList P ops Q (o::rest) a w:=by
 obtain ⟨w',hr,H'⟩:=Sep.store P us H hi off 0 (by omega) h1;refine K1 hw ?_;unfold Oper.wp;have hrun:(execOp a.eval o).run P w= .ok (.value (.tuple #[])) w':=by
  have hzr:=Eb (P:=P) hz w;obtain ⟨m,rfl⟩:∃ k,m=k+1:=⟨m - 1,by omega⟩
  simp only [execOp,ho];simp [Sem.run_bind,resolve,invoke,builtin,E.eval hx,Builtin.clear_,run_underlying ht,hzr,hu,hr]
 rw [hrun];show wpList P ops Q rest (a.put o.dst _) w';rw [hd];exact K w' H'
theorem ID(E:Env n a env)(H:Sep w os rs)(hw:Region.wanted o (yielded ops a.tmps)=true){dd:Nat}(hd:o.dst=some dd)(hdn:Nat.ble (dd+1) n=true){x y:Operand}{t e T:TI}{g sl sc yl yc sz i:Nat}{q:Addr}{cs us:List VL}
  (ho:o.op= .call { callee:=.builtin .append,args:=#[x,y],argTypes:=#[t,t] }) (hx:opv env x=some (.slice (some ⟨g,0,none⟩) sl sc)) (hy:opv env y=some (.slice (some q) yl yc)) (ht:P.underlying t=some (.slice e)) (hs:(P.info? e).map (·.size)=some sz)
  (hi:os[i]? =some (Blk g T cs)) (hc:sl+yl <= sc) (hl:us.length=yl * sz) (hu:∀ j u,us[j]? =some u->w.cell? (q.add j)=some u) (hf:sl * sz+us.length <= cs.length) (h1:∀ u ∈ us,u.oneCell'=true)
  (K:∀ w' a',Sep w' (os.set i (Blk g T (cE cs (sl * sz) us))) rs->Env n a' ((dd,.slice (some ⟨g,0,none⟩) (sl+yl) sc)::env)->wpList P ops Q rest a' w'):wpList P ops Q (o::rest) a w:=by
 obtain ⟨w',hr,H'⟩:=Sep.store P us H hi (sl * sz) 0 (by omega) h1;refine eS E hw hd hdn (v:=.slice (some ⟨g,0,none⟩) (sl+yl) sc) (w':=w') ?_ λa' E'=>K w' a' H' E';have hld:=run_loadCells_list (P:=P) w q us hu;rw [hl] at hld;have hadd:(⟨g,0,none⟩:Addr).add (sl * sz)= ⟨g,sl * sz,none⟩:=by rw [qG];simp
 simp only [execOp,ho];simp [Sem.run_bind,resolve,invoke,builtin,E.eval hx,E.eval hy,Builtin.append_,run_underlying ht,jN hs,Builtin.lenOf,Builtin.firstCells,hc,hld,hadd,hr]
theorem UK(E:Env n a env){t e:TI}{x:Operand}{b:Option Addr}{m c:Nat}(ho:o.op= .call { callee:=.builtin .cap,args:=#[x],argTypes:=#[t] })(hx:opv env x=some (.slice b m c))(ht:P.underlying t=some (.slice e)):(execOp a.eval o).run P w= .ok (.value (.int .i64 (c:Int))) w:=by
 simp only [execOp,ho];simp [Sem.run_bind,resolve,invoke,builtin,E.eval hx,Builtin.cap_,run_underlying ht,goInt]
/-- a slice of a slice, its bounds told. -/
theorem Ru(E:Env n a env){t e:TI}{x l:Operand}{b:Option Addr}{m c sz i:Nat}{k:IntKind}(ho:o.op= .slice t x (some l) none none)(hx:opv env x=some (.slice b m c))(hl:opv env l=some (.int k (i:Int)))(ht:P.underlying t=some (.slice e))(hs:(P.info? e).map (·.size)=some sz)(hi:i <= m) :
  (execOp a.eval o).run P w= .ok (.value (.slice (if c=i then b else b.map (·.add (i * sz))) (m - i) (c - i))) w:=by
 simp only [execOp,ho];simp [Sem.run_bind,E.eval hx,E.eval hl,Instr.sliceAt,run_underlying ht,Instr.slice,Instr.sliceBounds,Instr.sliceBound,asIntOf,hi,jN hs]
theorem Xr(E:Env n a env){t e:TI}{x l:Operand}{b:Option Addr}{m c sz i:Nat}{k:IntKind}(ho:o.op= .slice t x none (some l) none)(hx:opv env x=some (.slice b m c))(hl:opv env l=some (.int k (i:Int)))(ht:P.underlying t=some (.slice e))(hs:(P.info? e).map (·.size)=some sz)(hi:i <= c) :
  (execOp a.eval o).run P w= .ok (.value (.slice b i c)) w:=by
 simp only [execOp,ho];have h3:∀ b:Option Addr,Option.map (λx=>x.add 0) b=b:=λb=>by cases b <;> simp [Addr.add]
 simp [Sem.run_bind,E.eval hx,E.eval hl,Instr.sliceAt,run_underlying ht,Instr.slice,Instr.sliceBounds,Instr.sliceBound,asIntOf,hi,jN hs,h3]
theorem PU(E:Env n a env){t e:TI}{x l h:Operand}{b:Option Addr}{m c sz i j:Nat}{k k':IntKind}(ho:o.op= .slice t x (some l) (some h) none)(hx:opv env x=some (.slice b m c))(hl:opv env l=some (.int k (i:Int)))(hh:opv env h=some (.int k' (j:Int)))(ht:P.underlying t=some (.slice e))(hs:(P.info? e).map (·.size)=some sz)(hi:i <= j)(hj:j <= c) :
  (execOp a.eval o).run P w= .ok (.value (.slice (if c=i then b else b.map (·.add (i * sz))) (j - i) (c - i))) w:=by
 simp only [execOp,ho];simp [Sem.run_bind,E.eval hx,E.eval hl,E.eval hh,Instr.sliceAt,run_underlying ht,Instr.slice,Instr.sliceBounds,Instr.sliceBound,asIntOf,hi,hj,jN hs]
theorem LX(E:Env n a env){t e:TI}{x l h mm:Operand}{b:Option Addr}{m c sz i j q:Nat}{k k' k'':IntKind}(ho:o.op= .slice t x (some l) (some h) (some mm))(hx:opv env x=some (.slice b m c))(hl:opv env l=some (.int k (i:Int)))(hh:opv env h=some (.int k' (j:Int)))(hm:opv env mm=some (.int k'' (q:Int)))(ht:P.underlying t=some (.slice e))(hs:(P.info? e).map (·.size)=some sz)(hi:i <= j)(hj:j <= q)(hq:q <= c) :
  (execOp a.eval o).run P w= .ok (.value (.slice (if q=i then b else b.map (·.add (i * sz))) (j - i) (q - i))) w:=by
 simp only [execOp,ho];simp [Sem.run_bind,E.eval hx,E.eval hl,E.eval hh,E.eval hm,Instr.sliceAt,run_underlying ht,Instr.slice,Instr.sliceBounds,Instr.sliceBound,asIntOf,hi,hj,hq,jN hs]
end
end Go.Cb

namespace Go.Cb
open Go.RowKit
section
variable {P:Program} {w:WD}
theorem AP{t ti ty e:TI}{q:IntKind}{i:TypeInfo}{z:VL}(ht:P.underlying t=some (.slice e))(hti:P.underlying ti=some (.int q))(hi:P.info? e=some i)(hz:i.zero=some z)(hs0:0 < i.size)
  {b:Addr} {sLen sCap:Nat} {olds:List VL} (hlo:olds.length=sLen * i.size) (holds:∀ j v,olds[j]? =some v->w.cell? (b.add j)=some v)
  {n:Nat} (hn:0 < n) (hg:sCap < sLen+n) (h63:((sLen+n:Nat):Int) <= 9223372036854775807) (hb48:n * i.bytes <= 281474976710656) (hfit:Builtin.nextslicecap (sLen+n) sCap * i.bytes <= 281474976710656) :
  (Builtin.append_ #[t,ti] ty #[.slice (some b) sLen sCap,.int .i64 (n:Int)]).run P w =
   .ok (.slice (some ⟨w.heap.size,0,none⟩) (sLen+n) (grownCap w (sLen+n) sCap e)) (w.drew.alloc (.cells (olds.toArray ++ Builtin.zeroCells z.cells n ++ Builtin.zeroCells z.cells (grownCap w (sLen+n) sCap e - (sLen+n))) e)):=by
 have hw:IntKind.i64.wrap (n:Int)=(n:Int):=by
  unfold IntKind.wrap;simp [IntKind.bits,IntKind.signed];omega
 have hge:=grownCap_ge w (sLen+n) sCap e;have hng:¬ (sLen+n <= sCap):=by omega
 have h63':¬ (9223372036854775807 < ((sLen+n:Nat):Int)):=by omega
 have h63'':¬ (9223372036854775807 < (sLen:Int)+(n:Int)):=by omega
 have hb48':¬ ((281474976710656:Int) < (n:Int) * (i.bytes:Int)):=by
  have:((n * i.bytes:Nat):Int) <= 281474976710656:=by omega
  push_cast at this
  omega
 have h48':¬ (281474976710656 < Builtin.nextslicecap (sLen+n) sCap * i.bytes):=by omega
 have hf:=run_firstCells_some (P:=P) w.drew i.size sLen b sLen sCap olds hlo (by simpa using holds);have hneg:¬ ((n:Int) < 0):=by omega
 have hns:¬ (n * i.size=0):=by
  intro h;rcases Nat.mul_eq_zero.1 h with h | h <;> omega
 have hns':¬ (n=0∨i.size=0):=by omega
 simp [Builtin.append_,run_underlying ht,run_underlying hti,sizeOf,typeInfo,zeroValue,hi,hz,asInt,asIntOf,hw,hneg,Array.append_assoc,hng,h63',h63'',h48',hb48',hns',Question.forced,hf,newRow,grownCap];intro h;exact absurd h hns
variable {ops:Array Oper} {Q:Exit->Act->WD->Prop} {rest:List Oper} {o:Oper} {a:Act} {n:Nat} {env:List (Nat×VL)} {os:List Ob} {rs:List Rp}
theorem CV(E:Env n a env)(H:Sep w os rs)(hw:Region.wanted o (yielded ops a.tmps)=true){dd:Nat}(hd:o.dst=some dd)(hdn:Nat.ble (dd+1) n=true){x y:Operand}{t ti e:TI}{q:IntKind}{g sl sc m sz bytes:Nat}{z:VL}{olds:List VL}
  (ho:o.op= .call { callee:=.builtin .append,args:=#[x,y],argTypes:=#[t,ti] }) (hx:opv env x=some (.slice (some ⟨g,0,none⟩) sl sc)) (hy:opv env y=some (.int .i64 (m:Int))) (ht:P.underlying t=some (.slice e)) (hti:P.underlying ti=some (.int q))
  (hinfo:(P.info? e).map (λi=>(i.zero,i.size,i.bytes))=some (some z,sz,bytes)) (hz:z.cells.size=sz) (hsz:0 < sz) (hlo:olds.length=sl * sz) (holds:∀ j v,olds[j]? =some v->w.cell? ⟨g,j,none⟩=some v) (hm:0 < m) (hg:sc < sl+m) (hlim:(sl+m) * bytes <= 140737488355328) (hmax:sl+m <= maxLen)
  (K:∀ g' c' w' a',sl+m <= c'->c' <= maxLen->Sep w' (Blk g' e (olds ++ (Builtin.zeroCells z.cells m).toList ++ (Builtin.zeroCells z.cells (c' - (sl+m))).toList)::os) rs->Env n a' ((dd,.slice (some ⟨g',0,none⟩) (sl+m) c')::env)->wpList P ops Q rest a' w'):wpList P ops Q (o::rest) a w:=by
 obtain ⟨i0,hi0,hzz⟩:=Option.map_eq_some_iff.1 hinfo;simp only [Prod.mk.injEq] at hzz;obtain ⟨hz0,hz1,hz2⟩:=hzz;subst hz1;subst hz2;have hb:m * i0.bytes <= 281474976710656:=by
  have h1:m * i0.bytes <= (sl+m) * i0.bytes:=Nat.mul_le_mul_right _ (by omega);omega
 have hr:=AP (P:=P) (w:=w) (t:=t) (ti:=ti) (ty:=o.type) (b:=⟨g,0,none⟩) ht hti hi0 hz0 hsz hlo (λj v hj=>by rw [qG];simpa using holds j v hj) hm hg (by simp only [maxLen] at hmax;omega) hb (growslice_fits hg hlim);have hge:=grownCap_ge w (sl+m) sc e;have hle:=grownCap_le_maxLen w (sl+m) sc e hmax;rw [show olds.toArray ++ Builtin.zeroCells z.cells m ++ Builtin.zeroCells z.cells (grownCap w (sl+m) sc e - (sl+m))=(olds ++ (Builtin.zeroCells z.cells m).toList ++ (Builtin.zeroCells z.cells (grownCap w (sl+m) sc e - (sl+m))).toList).toArray from by simp] at hr;have H2:=(H.drew).newBlk e (olds ++ (Builtin.zeroCells z.cells m).toList ++ (Builtin.zeroCells z.cells (grownCap w (sl+m) sc e - (sl+m))).toList);refine eS E hw hd hdn (v:=.slice (some ⟨w.heap.size,0,none⟩) (sl+m) (grownCap w (sl+m) sc e)) (w':=w.drew.alloc (.cells (olds ++ (Builtin.zeroCells z.cells m).toList ++ (Builtin.zeroCells z.cells (grownCap w (sl+m) sc e - (sl+m))).toList).toArray e)) ?_ λa' E'=>K _ _ _ a' hge hle H2 E';simp only [execOp,ho];simp [Sem.run_bind,resolve,invoke,builtin,E.eval hx,E.eval hy,hr]
end
end Go.Cb

namespace Go.Cb
open Go.RowKit
section
variable {P:Program} {ops:Array Oper} {Q:Exit->Act->WD->Prop} {rest:List Oper} {o:Oper} {w:WD} {a:Act} {n:Nat} {env:List (Nat×VL)} {os:List Ob} {rs:List Rp}
theorem xY(E:Env n a env){t e:TI}{x ix:Operand}{p off len sz j:Nat}{kk:IntKind}{z:Int}(ho:o.op= .indexAddr t x ix)(hx:opv env x=some (.pointer (some ⟨p,off,none⟩)))(hi:opv env ix=some (.int kk z))(hz:(z == (j:Int))=true)(hj:Nat.ble (j+1) len=true)
  (ht:P.underlying t=some (.array len e)) (hs:(P.info? e).map (·.size)=some sz):(execOp a.eval o).run P w= .ok (.value (.pointer (some ⟨p,off+j * sz,none⟩))) w:=by
 have hz:z=(j:Int):=by simpa using hz
 subst hz;have hj':j < len:=Nat.le_of_ble_eq_true hj;simp only [execOp,ho,E.eval hx,E.eval hi];simp [Sem.run_bind,Instr.indexAt,asIntOf,run_underlying ht,jN hs,hj',Addr.add,Instr.sureAddr]
def Pv(sz i:Nat):VL->VL
 | .slice b n c=>.slice (if c=i then b else b.map (·.add (i * sz))) (n - i) (c - i)
 | v=>v
theorem Wp{α:Type}{d:Kd α}(H:Sep w os rs){i:Nat}{e:TI}{v:VL}{xs:List α}(hi:os[i]? =some (Row e d v xs)):(v= .slice none 0 0/\xs= [])∨∃ g c,v= .slice (some ⟨g,0,none⟩) xs.length c/\xs.length <= c:=by
 obtain ⟨_,_,flat,⟨_,h⟩,_⟩:=H.ob i hi;rcases h with ⟨h,h0⟩ | ⟨g,cap,cur,rfl,_,_,hn,_⟩
 ·exact .inl ⟨h,List.length_eq_zero_iff.1 h0⟩
 exact .inr ⟨g,cap,rfl,hn⟩
theorem Io{α:Type}{d:Kd α}(E:Env n a env)(H:Sep w os rs){t e:TI}{x l:Operand}{v:VL}{xs:List α}{k1:IntKind}{z:Int}{i:Nat}
  (ho:o.op= .slice t x (some l) none none) (hx:opv env x=some v) (hl:opv env l=some (.int k1 z)) (hi:os[i]? =some (Row e d v xs)) (ht:P.underlying t=some (.slice e)) (hs:(P.info? e).map (·.size)=some d.sz) (h0:0 <= z/\z <= xs.length) :
  (execOp a.eval o).run P w= .ok (.value (Pv d.sz z.toNat v)) w:=by
 have h2:z <= (xs.length:Int):=h0.2;rcases Wp H hi with ⟨rfl,rfl⟩ | ⟨g,c,rfl,_⟩
 ·simp only [execOp,ho];simp at h2;have:z=0:=by omega
  subst this;simp [Sem.run_bind,E.eval hx,E.eval hl,Instr.sliceAt,run_underlying ht,Instr.slice,Instr.sliceBounds,Instr.sliceBound,asIntOf,jN hs,Pv]
 simp only [execOp,ho];simp [Sem.run_bind,E.eval hx,E.eval hl,Instr.sliceAt,run_underlying ht,Instr.slice,Instr.sliceBounds,Instr.sliceBound,asIntOf,h0.1,h2,jN hs,Pv]
theorem Xs{α:Type}{d:Kd α}(F:iF d)(z0:α):∀ (m k:Nat),k < m * d.sz->(F.encs (List.replicate m z0))[k]? =(F.enc z0)[k % d.sz]?
 | 0,k,h=>by omega
 | m+1,k,h=>by
  show (F.encs (z0::List.replicate m z0))[k]? =_;rw [show z0::List.replicate m z0= [z0] ++ List.replicate m z0 from rfl,F.encs_app,F.encs_one];have hl:=F.len z0;rw [Nat.add_mul,Nat.one_mul] at h;by_cases hk:k < d.sz
  ·rw [List.getElem?_append_left (by omega),Nat.mod_eq_of_lt hk]
  rw [List.getElem?_append_right (by omega),hl,Xs F z0 m (k - d.sz) (by omega)];congr 1;rw [Nat.mod_eq_sub_mod (a:=k) (by omega)]
theorem UL{α:Type}{d:Kd α}(F:iF d)(z0:α){cs:Array VL}(hcs:cs.toList=F.enc z0)(m:Nat):(Builtin.zeroCells cs m).toList=F.encs (List.replicate m z0):=by
 have hsz:cs.size=d.sz:=by rw [← F.len z0,← hcs];simp
 apply List.ext_getElem?;intro k;by_cases hk:k < m * d.sz
 ·rw [Xs F z0 m k hk];have hp:=d.pos;have hm:k % d.sz < cs.size:=by rw [hsz];exact Nat.mod_lt _ (by omega)
  unfold Builtin.zeroCells;rw [← hcs];simp [hsz,hk,hm];rw [hsz] at hm;rw [getElem!_pos cs (k % d.sz) (by omega)];exact (Array.getElem?_eq_getElem _).symm
 rw [List.getElem?_eq_none (by unfold Builtin.zeroCells;simp [hsz];omega),List.getElem?_eq_none (by rw [F.encs_len];simp;omega)]
theorem Ch{α:Type}{d:Kd α}(E:Env n a env)(H:Sep w os rs)(F:iF d)(hw:Region.wanted o (yielded ops a.tmps)=true)(hd:o.dst=none){x:Operand}{t e:TI}{i:Nat}{v zv:VL}{xs:List α}{z:Int}{z0:α}
  (ho:o.op= .call { callee:=.builtin .clear,args:=#[x],argTypes:=#[t] }) (hx:opv env x=some (Pv d.sz z.toNat v)) (ht:P.underlying t=some (.slice e)) (hz:(P.info? e).bind (·.zero)=some zv) (hz0:zv.cells.toList=F.enc z0) (h1:(F.enc z0).all (·.oneCell')=true)
  (hi:os[i]? =some (Row e d v xs)) (h0:0 <= z/\z <= xs.length)
  (K:∀ w',Sep w' (os.set i (Row e d v (xs.take z.toNat ++ List.replicate (xs.length - z.toNat) z0))) rs->wpList P ops Q rest a w'):wpList P ops Q (o::rest) a w:=by
 have hil:=(List.getElem?_eq_some_iff.1 hi).1;obtain ⟨j,hj⟩:∃ j:Nat,z=(j:Int):=⟨z.toNat,by omega⟩
 subst hj;have hjl:j <= xs.length:=by omega
 have hjt:((j:Int)).toNat=j:=rfl;rw [hjt] at hx K;obtain ⟨w',hr,H'⟩:∃ w',(execOp a.eval o).run P w= .ok (.value (.tuple #[])) w'/\Sep w' (os.set i (Row e d v (xs.take j ++ List.replicate (xs.length - j) z0))) rs:=by
  by_cases hm:xs.length - j=0
  ·refine ⟨w,?_,?_⟩
   ·simp only [execOp,ho];rcases Wp H hi with ⟨rfl,rfl⟩ | ⟨g,c,rfl,_⟩
    ·simp [Pv] at hx;simp [Sem.run_bind,resolve,invoke,builtin,E.eval hx,Builtin.clear_,run_underlying ht]
    simp only [Pv,hm] at hx;by_cases hc:c=j
    ·rw [iP hc] at hx;simp [Sem.run_bind,resolve,invoke,builtin,E.eval hx,Builtin.clear_,run_underlying ht]
    rw [iN hc] at hx;simp [Sem.run_bind,resolve,invoke,builtin,E.eval hx,Builtin.clear_,run_underlying ht]
   have e1:xs.take j ++ List.replicate (xs.length - j) z0=xs:=by rw [hm,List.replicate_zero,List.append_nil,List.take_of_length_le (by omega)]
   rw [e1];have e2:os.set i (Row e d v xs)=os:=by
    apply List.ext_getElem?;intro q;by_cases h:i=q
    ·subst h;rw [List.getElem?_set_self hil,hi]
    rw [List.getElem?_set_ne h]
   rw [e2];exact H
  rcases Wp H hi with ⟨_,rfl⟩ | ⟨g,c,rfl,hnc⟩
  ·simp at hm
  obtain ⟨cs,H1,hn,_,hcm,hcl,hct⟩:=H.rowBlk F hi;have hb:(os.set i (Blk g e cs))[i]? =some (Blk g e cs):=List.getElem?_set_self hil;have hul:(F.encs (List.replicate (xs.length - j) z0)).length=(xs.length - j) * d.sz:=by rw [F.encs_len,List.length_replicate]
  have hmul:j * d.sz+(xs.length - j) * d.sz=xs.length * d.sz:=by rw [← Nat.add_mul];congr 1;omega
  have hmul2:xs.length * d.sz <= c * d.sz:=Nat.mul_le_mul_right _ hnc;have h1':∀ u ∈ F.encs (List.replicate (xs.length - j) z0),u.oneCell'=true:=by
   intro u hu;obtain ⟨y,hy,hu⟩:=List.mem_flatMap.1 hu;rw [List.eq_of_mem_replicate hy] at hu;exact List.all_eq_true.1 h1 u hu
  obtain ⟨w',hr,H'⟩:=Sep.store P (F.encs (List.replicate (xs.length - j) z0)) H1 hb (j * d.sz) 0 (by rw [hul];omega) h1';refine ⟨w',?_,?_⟩
  ·have hzr:=Eb (P:=P) hz w;have hcj:c ≠ j:=by omega
   simp only [Pv,iN hcj] at hx;have hx:opv env x=some (.slice (some ⟨g,j * d.sz,none⟩) (xs.length - j) (c - j)):=by
    rw [hx];show some (Value.slice (some ((⟨g,0,none⟩:Addr).add _)) _ _)=_;rw [qG];simp
   obtain ⟨m,hm'⟩:∃ k,xs.length - j=k+1:=⟨xs.length - j - 1,by omega⟩
   rw [hm'] at hx hr;simp only [execOp,ho];simp [Sem.run_bind,resolve,invoke,builtin,E.eval hx,Builtin.clear_,run_underlying ht,hzr,UL F z0 hz0,hr]
  rw [List.set_set,xB _ _ _ (by rw [hul];omega)] at H';simp only [Nat.add_zero] at H';have hb3:=List.getElem?_set_self (l:=os) (i:=i) (a:=Blk g e (cs.take (j * d.sz) ++ F.encs (List.replicate (xs.length - j) z0) ++ cs.drop (j * d.sz+(F.encs (List.replicate (xs.length - j) z0)).length))) hil;have e0:cs.take (j * d.sz)=F.encs (xs.take j):=by
   rw [← F.encs_take xs j hjl,← hct,List.take_take,Nat.min_eq_left (Nat.mul_le_mul_right _ hjl)]
  have H2:=H'.blkRow (xs:=xs.take j ++ List.replicate (xs.length - j) z0) (n:=xs.length) (c:=c) F hb3 (by rw [List.length_append,List.length_take,List.length_replicate];omega) hnc hcm (by rw [List.length_append,List.length_append,List.length_take,List.length_drop,hul,hcl];omega)
   (by
    rw [e0,← F.encs_app,show xs.length * d.sz=(F.encs (xs.take j ++ List.replicate (xs.length - j) z0)).length from by rw [F.encs_len,List.length_append,List.length_take,List.length_replicate];congr 1;omega];exact List.take_left)
  rw [List.set_set] at H2;exact H2
 refine K1 hw ?_;unfold Oper.wp;rw [hr];show wpList P ops Q rest (a.put o.dst _) w';rw [hd];exact K w' H'
theorem Ff{α:Type}{d:Kd α}(E:Env n a env)(H:Sep w os rs)(F:iF d)(hw:Region.wanted o (yielded ops a.tmps)=true){dd:Nat}(hd:o.dst=some dd)(hdn:Nat.ble (dd+1) n=true){t e:TI}{x l:Operand}{v:VL}{xs:List α}{k1:IntKind}{z:Int}{i:Nat}
  (ho:o.op= .slice t x none (some l) none) (hx:opv env x=some v) (hl:opv env l=some (.int k1 z)) (hi:os[i]? =some (Row e d v xs)) (ht:P.underlying t=some (.slice e)) (hs:(P.info? e).map (·.size)=some d.sz) (h0:0 <= z/\z <= xs.length)
  (K:∀ v' a',Sep w (os.set i (Row e d v' (xs.take z.toNat))) rs->Env n a' ((dd,v')::env)->wpList P ops Q rest a' w):wpList P ops Q (o::rest) a w:=by
 have hil:=(List.getElem?_eq_some_iff.1 hi).1;have h2:z <= (xs.length:Int):=h0.2;have h3:∀ b:Option Addr,Option.map (λx=>x.add 0) b=b:=λb=>by cases b <;> simp [Addr.add]
 rcases Wp H hi with ⟨rfl,rfl⟩ | ⟨g,c,rfl,hnc⟩
 ·simp at h2;have:z=0:=by omega
  subst this;refine eS E hw hd hdn (v:=.slice none 0 0) (w':=w) ?_ λa' E'=>K _ a' ?_ E'
  ·simp only [execOp,ho];simp [Sem.run_bind,E.eval hx,E.eval hl,Instr.sliceAt,run_underlying ht,Instr.slice,Instr.sliceBounds,Instr.sliceBound,asIntOf,jN hs]
  have e2:os.set i (Row e d (.slice none 0 0) (([]:List α).take ((0:Int)).toNat))=os:=by
   apply List.ext_getElem?;intro q;by_cases h:i=q
   ·subst h;rw [List.getElem?_set_self hil,hi];rfl
   rw [List.getElem?_set_ne h]
  rw [e2];exact H
 refine eS E hw hd hdn (v:=.slice (some ⟨g,0,none⟩) z.toNat c) (w':=w) ?_ λa' E'=>K _ a' ?_ E'
 ·have h4:z <= (c:Int):=by omega
  simp only [execOp,ho];simp [Sem.run_bind,E.eval hx,E.eval hl,Instr.sliceAt,run_underlying ht,Instr.slice,Instr.sliceBounds,Instr.sliceBound,asIntOf,h0.1,h4,jN hs,Addr.add]
 obtain ⟨cs,H1,hn,_,hcm,hcl,hct⟩:=H.rowBlk F hi;have hb:(os.set i (Blk g e cs))[i]? =some (Blk g e cs):=List.getElem?_set_self hil;have H2:=H1.blkRow (xs:=xs.take z.toNat) (n:=z.toNat) (c:=c) F hb (by rw [List.length_take];omega) (by omega) hcm hcl (by
  rw [← F.encs_take xs z.toNat (by omega),← hct,List.take_take,Nat.min_eq_left (Nat.mul_le_mul_right _ (by omega))])
 rw [List.set_set] at H2;exact H2
theorem FF{α:Type}{d:Kd α}(E:Env n a env)(H:Sep w os rs)(F:iF d)(hw:Region.wanted o (yielded ops a.tmps)=true)(hd:o.dst=none){x y:Operand}{t:TI}{i:Nat}{e:TI}{g m c:Nat}{xs:List α}{j:Int}{z z':α}{v:VL}{us:List VL}
  (ho:o.op= .store t x y) (hx:opv env x=some (.pointer (some ⟨g,j.toNat * d.sz,none⟩))) (hy:opv env y=some v) (hv:v.cells=us.toArray) (hu:F.enc z'=us) (h1:us.all (·.oneCell')=true) (hi:os[i]? =some (Row e d (.slice (some ⟨g,0,none⟩) m c) xs)) (hj:idx xs j=some z) (hs:(P.info? t).map (·.size)=some us.length)
  (K:∀ w',Sep w' (os.set i (Row e d (.slice (some ⟨g,0,none⟩) m c) (xs.set j.toNat z'))) rs->wpList P ops Q rest a w'):wpList P ops Q (o::rest) a w:=by
 subst hu;have hil:=(List.getElem?_eq_some_iff.1 hi).1;obtain ⟨_,hjl,_⟩:=W8 hj;obtain ⟨cs,H1,hn,hnc,hcm,hcl,hct⟩:=H.rowBlk F hi;have hb:(os.set i (Blk g e cs))[i]? =some (Blk g e cs):=List.getElem?_set_self hil;have hul:=F.len z';have m1:(j.toNat+1) * d.sz <= m * d.sz:=Nat.mul_le_mul_right _ (by omega);have m2:m * d.sz <= c * d.sz:=Nat.mul_le_mul_right _ hnc;rw [Nat.add_mul,Nat.one_mul] at m1;obtain ⟨w',hr,H'⟩:=Sep.store P (F.enc z') H1 hb (j.toNat * d.sz) 0 (by rw [hul];omega) (by simpa using h1);simp only [Nat.add_zero] at H';rw [List.set_set,xB _ _ _ (by rw [hul];omega)] at H';have hb3:=List.getElem?_set_self (l:=os) (i:=i) (a:=Blk g e (cs.take (j.toNat * d.sz) ++ F.enc z' ++ cs.drop (j.toNat * d.sz+(F.enc z').length))) hil;have e0:cs.take (j.toNat * d.sz)=F.encs (xs.take j.toNat):=by
  rw [← F.encs_take xs j.toNat (by omega),← hct,List.take_take,Nat.min_eq_left (by omega)]
 have e1:cs.drop (j.toNat * d.sz+d.sz)=F.encs (xs.drop (j.toNat+1)) ++ cs.drop (m * d.sz):=by
  have h3:cs=F.encs xs ++ cs.drop (m * d.sz):=by rw [← hct,List.take_append_drop]
  have h4:j.toNat * d.sz+d.sz=(j.toNat+1) * d.sz:=by rw [Nat.add_mul,Nat.one_mul]
  conv=>lhs;rw [h3]
  rw [List.drop_append_of_le_length (by rw [F.encs_len,hn];omega),h4,F.encs_drop _ _ (by omega)]
 have e2:xs.set j.toNat z'=xs.take j.toNat ++ [z'] ++ xs.drop (j.toNat+1):=by
  rw [List.set_eq_take_append_cons_drop,iP hjl];simp
 have H2:=H'.blkRow (xs:=xs.set j.toNat z') (n:=m) (c:=c) F hb3 (by rw [List.length_set,hn]) hnc hcm (by rw [List.length_append,List.length_append,List.length_take,List.length_drop,hul,hcl];omega)
  (by
   rw [hul,e0,e1,← F.encs_one,← F.encs_app,← List.append_assoc,← F.encs_app,← e2,show m * d.sz=(F.encs (xs.set j.toNat z')).length from by rw [F.encs_len,List.length_set,hn]];exact List.take_left)
 rw [List.set_set] at H2;refine Bo E hw hd (w':=w') ?_ (K w' H2);simp only [execOp,ho,E.eval hx,E.eval hy];simp [Sem.run_bind,Instr.storeAt,Instr.sureAddr,storeVar,jN hs,hv,hr]
/-! the same, the row's value told by an equation -/
theorem dS{α:Type}{d:Kd α}(E:Env n a env){t e:TI}{x ix:Operand}{v:VL}{g m c:Nat}{kk:IntKind}{j:Int}{xs:List α}{y:α}(hv:v= .slice (some ⟨g,0,none⟩) m c)(ho:o.op= .indexAddr t x ix)(hx:opv env x=some v)(hi:opv env ix=some (.int kk j))(hm:xs.length=m)
  (ht:P.underlying t=some (.slice e)) (hs:(P.info? e).map (·.size)=some d.sz) (hj:idx xs j=some y):(execOp a.eval o).run P w= .ok (.value (.pointer (some ⟨g,j.toNat * d.sz,none⟩))) w:=by
 subst hv;exact LS E ho hx hi hm ht hs hj
theorem tV{α:Type}{d:Kd α}(E:Env n a env)(H:Sep w os rs)(F:iF d){x:Operand}{t:TI}{i:Nat}{e:TI}{v:VL}{g m c k:Nat}{xs:List α}{j:Int}{y:α}{u:VL}{ds:TypeDesc}(hv:v= .slice (some ⟨g,0,none⟩) m c)(ho:o.op= .load t x)(hx:opv env x=some (.pointer (some ⟨g,j.toNat * d.sz+k,none⟩)))
  (hi:os[i]? =some (Row e d v xs)) (hj:idx xs j=some y) (hk:(F.enc y)[k]? =some u) (hu:P.underlying t=some ds) (hp:dM ds=true):(execOp a.eval o).run P w= .ok (.value u) w:=by
 subst hv;exact LT E H F ho hx hi hj hk hu hp
theorem lG{α:Type}{d:Kd α}(E:Env n a env)(H:Sep w os rs)(F:iF d){x:Operand}{t:TI}{i:Nat}{e:TI}{v:VL}{g m c:Nat}{xs:List α}{j:Int}{y:α}{us:List VL}{ds:TypeDesc}(hv:v= .slice (some ⟨g,0,none⟩) m c)(ho:o.op= .load t x)(hx:opv env x=some (.pointer (some ⟨g,j.toNat * d.sz,none⟩)))
  (hi:os[i]? =some (Row e d v xs)) (hj:idx xs j=some y) (hk:F.enc y=us) (hu:P.underlying t=some ds) (hp:dM ds=false) (hs:(P.info? t).map (·.size)=some us.length):(execOp a.eval o).run P w= .ok (.value (.agg us.toArray)) w:=by
 subst hv;exact HY E H F ho hx hi hj hk hu hp hs
theorem Cw{α:Type}{d:Kd α}(E:Env n a env)(H:Sep w os rs)(F:iF d)(hw:Region.wanted o (yielded ops a.tmps)=true)(hd:o.dst=none){x y:Operand}{t:TI}{i:Nat}{e:TI}{v:VL}{g m c k:Nat}{xs:List α}{j:Int}{z z':α}{u:VL}(hv:v= .slice (some ⟨g,0,none⟩) m c)(ho:o.op= .store t x y)(hx:opv env x=some (.pointer (some ⟨g,j.toNat * d.sz+k,none⟩)))(hy:opv env y=some u)
  (hu:u.cells= [u].toArray) (h1:u.oneCell'=true) (hi:os[i]? =some (Row e d v xs)) (hj:idx xs j=some z) (he:F.enc z'=(F.enc z).set k u) (hk:Nat.ble (k+1) d.sz=true) (hs:(P.info? t).map (·.size)=some 1)
  (K:∀ w',Sep w' (os.set i (Row e d v (xs.set j.toNat z'))) rs->wpList P ops Q rest a w'):wpList P ops Q (o::rest) a w:=by
 subst hv;exact IC E H F hw hd ho hx hy hu h1 hi hj he hk hs K
theorem Al{α:Type}{d:Kd α}(E:Env n a env)(H:Sep w os rs)(F:iF d)(hw:Region.wanted o (yielded ops a.tmps)=true)(hd:o.dst=none){x y:Operand}{t:TI}{i:Nat}{e:TI}{vr:VL}{g m c:Nat}{xs:List α}{j:Int}{z z':α}{v:VL}{us:List VL}(hvr:vr= .slice (some ⟨g,0,none⟩) m c)
  (ho:o.op= .store t x y) (hx:opv env x=some (.pointer (some ⟨g,j.toNat * d.sz,none⟩))) (hy:opv env y=some v) (hv:v.cells=us.toArray) (hu:F.enc z'=us) (h1:us.all (·.oneCell')=true) (hi:os[i]? =some (Row e d vr xs)) (hj:idx xs j=some z) (hs:(P.info? t).map (·.size)=some us.length)
  (K:∀ w',Sep w' (os.set i (Row e d vr (xs.set j.toNat z'))) rs->wpList P ops Q rest a w'):wpList P ops Q (o::rest) a w:=by
 subst hvr;exact FF E H F hw hd ho hx hy hv hu h1 hi hj hs K
end
end Go.Cb

namespace Go.Cb
open Go.RowKit

/-! ### tables of closed facts -/
def f3{α:Type}:List (Nat×Nat×α)->Nat->Nat->Option α
 | [],_,_=>none
 | (a,b,c)::r,x,y=>bif Nat.beq a x && Nat.beq b y then some c else f3 r x y
def m1:List Nat->Nat->Bool
 | [],_=>false
 | a::r,x=>Nat.beq a x || m1 r x
structure Tb where
 fld:List (Nat×Nat×Nat)
 cnv:List (Nat×Nat×IntKind)
 str:List Nat
def CW(P:Program):List (Nat×Nat×Nat)->Prop
 | []=>True
 | (T,i,o)::r=>(∀ (w:WD) (q:Addr),(Instr.fieldAt T (.pointer (some q)) i).run P w= .ok (.pointer (some (q.add o))) w)/\CW P r
def CX(P:Program):List (Nat×Nat×IntKind)->Prop
 | []=>True
 | (s,t,k)::r=>(∀ (w:WD) (k0:IntKind) (i:Int),(convert s t (.int k0 i)).run P w= .ok (.int k (k.wrap i)) w)/\CX P r
def CY(P:Program):List Nat->Prop
 | []=>True
 | t::r=>P.underlying t=some .string/\CY P r
structure DB (P:Program) (tb:Tb):Prop where
 fld:CW P tb.fld
 cnv:CX P tb.cnv
 str:CY P tb.str
theorem KZ{α:Type}{a b:Nat}{c d:α}{r:List (Nat×Nat×α)}{x y:Nat}(h:f3 ((a,b,c)::r) x y=some d):(a=x/\b=y/\c=d)∨f3 r x y=some d:=by
 simp only [f3] at h;cases hb:(Nat.beq a x && Nat.beq b y) with
 | true=>
  rw [hb] at h;simp at h hb;exact .inl ⟨hb.1,hb.2,h⟩
 | false=>rw [hb] at h;exact .inr h
theorem CW.get {P:Program}:∀ {l:List (Nat×Nat×Nat)},CW P l->∀ {T i o:Nat},f3 l T i=some o->∀ (w:WD) (q:Addr),(Instr.fieldAt T (.pointer (some q)) i).run P w= .ok (.pointer (some (q.add o))) w
 | [],_,_,_,_,h=>by cases h
 | (_,_,_)::_,hl,_,_,_,h=>by
  rcases KZ h with ⟨rfl,rfl,rfl⟩ | h
  ·exact hl.1
  exact hl.2.get h
theorem CX.get {P:Program}:∀ {l:List (Nat×Nat×IntKind)},CX P l->∀ {s t:Nat} {k:IntKind},f3 l s t=some k->∀ (w:WD) (k0:IntKind) (i:Int),(convert s t (.int k0 i)).run P w= .ok (.int k (k.wrap i)) w
 | [],_,_,_,_,h=>by cases h
 | (_,_,_)::_,hl,_,_,_,h=>by
  rcases KZ h with ⟨rfl,rfl,rfl⟩ | h
  ·exact hl.1
  exact hl.2.get h
theorem CY.get {P:Program}:∀ {l:List Nat},CY P l->∀ {t:Nat},m1 l t=true->P.underlying t=some .string
 | [],_,_,h=>by cases h
 | a::r,hl,t,h=>by
  simp only [m1,Bool.or_eq_true] at h;rcases h with h | h
  ·obtain rfl:=Nat.eq_of_beq_eq_true h;exact hl.1
  ·exact hl.2.get h

/-! ### what one operation yields, out of the frame alone -/
def I9:List (Nat×Bool)->Nat->Option Bool
 | [],_=>none
 | (t,b)::r,k=>bif Nat.beq t k then some b else I9 r k
def Kn(env:List (Nat×VL))(kn:List (Nat×Bool)):Prop:=∀ d b,I9 kn d=some b->pJ env d=some (.bool b)
theorem kn0(env:List (Nat×VL)):Kn env []:=λ_ _ h=>by cases h
theorem kc{env:List (Nat×VL)}(t:Nat){c b:Bool}(h:pJ env t=some (.bool c))(hb:c=b):Kn env [(t,b)]:=λd b' h'=>by
 subst hb;simp only [I9] at h';cases hq:Nat.beq t d with
 | true=>rw [hq] at h';obtain rfl:=Nat.eq_of_beq_eq_true hq;simp at h';subst h';exact h
 | false=>rw [hq] at h';cases h'
theorem kc'{env:List (Nat×VL)}{kn:List (Nat×Bool)}(K:Kn env kn)(t:Nat){c b:Bool}(h:pJ env t=some (.bool c))(hb:c=b):Kn env ((t,b)::kn):=λd b' h'=>by
 subst hb;simp only [I9] at h';cases hq:Nat.beq t d with
 | true=>rw [hq] at h';obtain rfl:=Nat.eq_of_beq_eq_true hq;simp at h';subst h';exact h
 | false=>rw [hq] at h';exact K d b' h'
def LA(tb:Tb)(env:List (Nat×VL)):Callee->List Operand->List TI->Option VL
 | .builtin .len,[x],[t]=>match opv env x with
  | some (.string s)=>bif m1 tb.str t then some (.int .i64 (s.size:Int)) else none
  | _=>none
 | _,_,_=>none
def Nn(tb:Tb)(kn:List (Nat×Bool))(env:List (Nat×VL)):_root_.Go.Op->Option VL
 | .move x=>opv env x
 | .assign x=>opv env x
 | .binOp op _ x y _=>match opv env x with
  | some (.int k i)=>match opv env y with
   | some (.int k' j)=>bif Nat.beq k.ctorIdx k'.ctorIdx then ib op k i j else none
   | _=>none
  | some (.string s)=>match opv env y with
   | some (.string t)=>sb op s t
   | _=>none
  | _=>none
 | .unOp .not _ x=>match opv env x with
  | some (.bool b)=>some (.bool !b)
  | _=>none
 | .extract x i=>match opv env x with
  | some (.tuple vs)=>vs[i]?
  | _=>none
 | .pick (.tmp c) x y=>match I9 kn c with
  | some b=>bif b then opv env x else opv env y
  | none=>match pJ env c with
   | some (.bool true)=>opv env x
   | some (.bool false)=>opv env y
   | _=>none
 | .nilCheck x=>match opv env x with
  | some (.pointer (some q))=>some (.pointer (some q))
  | _=>none
 | .fieldAddr T x i=>match opv env x with
  | some (.pointer (some q))=>match f3 tb.fld T i with
   | some o=>some (.pointer (some (q.add o)))
   | none=>none
  | _=>none
 | .convert s t x=>match opv env x with
  | some (.int _ i)=>match f3 tb.cnv s t with
   | some k=>some (.int k (k.wrap i))
   | none=>none
  | _=>none
 | .call c=>LA tb env c.callee c.args.toList c.argTypes.toList
 | _=>none
def gd(ops:Array Oper)(kn:List (Nat×Bool))(env:List (Nat×VL))(o:Oper):Option Bool:=
 match o.guard with
 | none=>some true
 | some (j,b)=>match ops[j]? with
  | some oj=>match oj.dst with
   | some d=>match I9 kn d with
    | some c=>some (bif c then b else !b)
    | none=>match pJ env d with
     | some (.bool true)=>some b
     | some (.bool false)=>some (!b)
     | some (.tuple _)=>some false
     | _=>none
   | none=>none
  | none=>none
def Ga(tb:Tb)(kn:List (Nat×Bool))(ops:Array Oper)(n:Nat):Nat->List (Nat×VL)->List Oper->Option (List (Nat×VL)×List Oper)
 | 0,env,l=>some (env,l)
 | _+1,_,[]=>none
 | k+1,env,o::l=>match gd ops kn env o with
  | some true=>match o.dst with
   | some d=>bif Nat.ble (d+1) n && (I9 kn d).isNone then (match Nn tb kn env o.op with
    | some v=>Ga tb kn ops n k ((d,v)::env) l
    | none=>none) else none
   | none=>none
  | some false=>match o.dst with
   | some d=>bif Nat.ble (d+1) n && (I9 kn d).isNone then Ga tb kn ops n k ((d,undef)::env) l else none
   | none=>Ga tb kn ops n k env l
  | none=>none
section
variable {P:Program} {ops:Array Oper} {Q:Exit->Act->WD->Prop} {o:Oper} {w:WD} {a:Act} {n:Nat} {env:List (Nat×VL)} {tb:Tb} {kn:List (Nat×Bool)}
theorem Kn.put {d:Nat} {v:VL} (K:Kn env kn) (hd:(I9 kn d).isNone=true):Kn ((d,v)::env) kn:=λt b h=>by
 simp only [pJ];cases hq:Nat.beq d t with
 | true=>obtain rfl:=Nat.eq_of_beq_eq_true hq;rw [h] at hd;cases hd
 | false=>exact K t b h
theorem Fg(E:Env n a env)(K:Kn env kn){b:Bool}(h:gd ops kn env o=some b):Region.wanted o (yielded ops a.tmps)=b:=by
 unfold gd at h;split at h
 ·rename_i hg;cases h;exact wn hg
 rename_i j b0 hg;split at h
 ·rename_i oj hj;split at h
  ·rename_i d hd;split at h
   ·rename_i c hc;have hl:=E.get d _ (K d c hc);cases h;cases c <;> cases b0 <;> simp [Region.wanted,hg,yielded,hj,hd,hl]
   split at h
   ·rename_i hl;have hl:=E.get d _ hl;cases h;simp [Region.wanted,hg,yielded,hj,hd,hl]
   ·rename_i hl;have hl:=E.get d _ hl;cases h;cases b0 <;> simp [Region.wanted,hg,yielded,hj,hd,hl]
   ·rename_i hl;have hl:=E.get d _ hl;cases h;simp [Region.wanted,hg,yielded,hj,hd,hl]
   cases h
  cases h
 cases h
theorem Vf(T:DB P tb)(E:Env n a env)(K:Kn env kn){v:VL}(h:Nn tb kn env o.op=some v):(execOp a.eval o).run P w= .ok (.value v) w:=by
 generalize ho:o.op=op at h;cases op <;> simp only [Nn] at h <;> first | (exact absurd h (by simp)) | skip
 case move x=>exact cB E ho h
 case assign x=>exact gD E ho h
 case pick c x y=>
  cases c <;> simp only [Nn] at h <;> first | (exact absurd h (by simp)) | skip
  rename_i c;split at h
  ·rename_i b hb;have hl:=K _ _ hb;cases b with
   | true=>exact BJ E ho hl rfl h
   | false=>exact BK E ho hl rfl h
  split at h
  ·rename_i hl;exact BJ E ho hl rfl h
  ·rename_i hl;exact BK E ho hl rfl h
  cases h
 case nilCheck x=>
  split at h
  ·rename_i q hx;cases h;exact I7 E ho hx
  cases h
 case binOp op t x y t'=>
  split at h
  ·rename_i k i hx;split at h
   ·rename_i k' j hy;cases hb:Nat.beq k.ctorIdx k'.ctorIdx with
    | true=>
     rw [hb] at h;obtain rfl:k=k':=by
      have:=Nat.eq_of_beq_eq_true hb;cases k <;> cases k' <;> first | rfl | (exact absurd this (by decide))
     exact pI E ho hx hy h
    | false=>rw [hb] at h;cases h
   cases h
  ·rename_i s hx;split at h
   ·rename_i t hy;exact UG E ho hx hy h
   cases h
  cases h
 case unOp op t x=>
  cases op <;> simp only [Nn] at h <;> first | (exact absurd h (by simp)) | skip
  split at h
  ·rename_i b hx;cases h;exact KU E ho hx
  cases h
 case convert s t x=>
  split at h
  ·rename_i k i hx;split at h
   ·rename_i k' hk;cases h;exact Ha E ho hx (T.cnv.get hk w k i)
   cases h
  cases h
 case fieldAddr t x i=>
  split at h
  ·rename_i q hx;split at h
   ·rename_i k hk;cases h;exact pK E ho hx (T.fld.get hk w q)
   cases h
  cases h
 case extract x i=>
  split at h
  ·rename_i vs hx;exact KV E ho hx h
  cases h
 case call c=>
  obtain ⟨f,xs,ts⟩:=c;unfold LA at h;split at h
  ·rename_i x t e1 e2 e3;split at h
   ·rename_i s hx;cases hm:m1 tb.str t with
    | true=>
     rw [hm] at h;cases h;refine HX E ?_ hx (T.str.get hm);rw [ho];obtain rfl:xs= #[x]:=by rw [← Array.toArray_toList (xs:=xs)];exact congrArg List.toArray e2
     obtain rfl:ts= #[t]:=by rw [← Array.toArray_toList (xs:=ts)];exact congrArg List.toArray e3
     rw [show f= .builtin .len from e1]
    | false=>rw [hm] at h;cases h
   cases h
  cases h
/-- k operations at once, that only reckon. -/
theorem Rv(T:DB P tb):∀ (k:Nat) {env env':List (Nat×VL)} {l l':List Oper} {a:Act},Env n a env->Kn env kn->Ga tb kn ops n k env l=some (env',l')->(∀ a',Env n a' env'->wpList P ops Q l' a' w)->wpList P ops Q l a w
 | 0,env,env',l,l',a,E,K,h,kont=>by cases h;exact kont _ E
 | k+1,env,env',[],l',a,E,K,h,kont=>by cases h
 | k+1,env,env',o::l,l',a,E,K,h,kont=>by
  simp only [Ga] at h;split at h
  ·rename_i hg;have hw:=Fg E K hg;split at h
   ·rename_i d hd;cases hb:(Nat.ble (d+1) n && (I9 kn d).isNone) with
    | false=>rw [hb] at h;cases h
    | true=>
     rw [hb] at h;simp only [cond_true] at h;simp only [Bool.and_eq_true] at hb;split at h
     ·rename_i v hv;exact eS E hw hd hb.1 (Vf T E K hv) λa' E'=>Rv T k E' (K.put hb.2) h kont
     cases h
   cases h
  ·rename_i hg;have hw:=Fg E K hg;split at h
   ·rename_i d hd;cases hb:(Nat.ble (d+1) n && (I9 kn d).isNone) with
    | false=>rw [hb] at h;cases h
    | true=>
     rw [hb] at h;simp only [cond_true] at h;simp only [Bool.and_eq_true] at hb;exact UE E hw hd hb.1 λa' E'=>Rv T k E' (K.put hb.2) h kont
   rename_i hd;exact PM E hw hd (Rv T k E K h kont)
  cases h
variable {I:WD->Prop} {ord:List (Nat×Nat)}
def Tx(tb:Tb)(kn:List (Nat×Bool))(ops:Array Oper)(n:Nat):Nat->List (Nat×VL)->List (Nat×Nat)->Option (List (Nat×VL)×List (Nat×Nat))
 | 0,env,l=>some (env,l)
 | k+1,env,(i,0)::l=>match ops[i]? with
  | some o=>match gd ops kn env o with
   | some true=>match o.dst with
    | some d=>bif Nat.ble (d+1) n && (I9 kn d).isNone then (match Nn tb kn env o.op with
     | some v=>Tx tb kn ops n k ((d,v)::env) l
     | none=>none) else none
    | none=>none
   | some false=>match o.dst with
    | some d=>bif Nat.ble (d+1) n && (I9 kn d).isNone then Tx tb kn ops n k ((d,undef)::env) l else none
    | none=>none
   | none=>none
  | none=>none
 | _+1,_,_=>none
/-- k free operations of a region that draws, that only reckon. -/
theorem Wq(T:DB P tb):∀ (k:Nat) {env env':List (Nat×VL)} {l l':List (Nat×Nat)} {a:Act},Env n a env->Kn env kn->Tx tb kn ops n k env l=some (env',l')->(∀ a',Env n a' env'->oN P I ops Q l' a' w)->oN P I ops Q l a w
 | 0,env,env',l,l',a,E,K,h,kont=>by cases h;exact kont _ E
 | k+1,env,env',[],l',a,E,K,h,kont=>by cases h
 | k+1,env,env',(i,m+1)::l,l',a,E,K,h,kont=>by cases h
 | k+1,env,env',(i,0)::l,l',a,E,K,h,kont=>by
  simp only [Tx] at h;split at h
  ·rename_i o hi;split at h
   ·rename_i hg;have hw:=Fg E K hg;split at h
    ·rename_i d hd;cases hb:(Nat.ble (d+1) n && (I9 kn d).isNone) with
     | false=>rw [hb] at h;cases h
     | true=>
      rw [hb] at h;simp only [cond_true] at h;simp only [Bool.and_eq_true] at hb;split at h
      ·rename_i v hv;exact dU E hi hw hd hb.1 (λw _=>Vf T E K hv) λa' E'=>Wq T k E' (K.put hb.2) h kont
      cases h
    cases h
   ·rename_i hg;have hw:=Fg E K hg;split at h
    ·rename_i d hd;cases hb:(Nat.ble (d+1) n && (I9 kn d).isNone) with
     | false=>rw [hb] at h;cases h
     | true=>
      rw [hb] at h;simp only [cond_true] at h;simp only [Bool.and_eq_true] at hb;exact UI E hi hw hd hb.1 λa' E'=>Wq T k E' (K.put hb.2) h kont
    cases h
   cases h
  cases h
end
/-! ### short forms -/
section
variable {P:Program} {ops:Array Oper} {Q:Exit->Act->WD->Prop} {rest:List Oper} {o:Oper} {w:WD} {a:Act} {n:Nat} {env:List (Nat×VL)} {os:List Ob} {rs:List Rp}
theorem cs{α:Type}{b:Bool}{x y:Option α}{r:α}{G:Prop}(hm:(if b=true then x else y)=some r)(ht:b=true->x=some r->G)(hf:b=false->y=some r->G):G:=by
 cases b with
 | true=>exact ht rfl hm
 | false=>exact hf rfl hm
theorem bd{α β:Type}{x:Option α}{f:α->Option β}{r:β}{G:Prop}(h:x.bind f=some r)(k:∀ y,x=some y->f y=some r->G):G:=by
 obtain ⟨y,h1,h2⟩:=bnd h;exact k y h1 h2
theorem bk{β:Type}{p:Prop} [Decidable p] {f:Unit->Option β} {r:β} {G:Prop} (h:(ck p).bind f=some r) (k:p->f ()=some r->G):G:=by
 obtain ⟨y,h1,h2⟩:=bnd h;exact k (UF h1) h2
theorem wif{α:Type}{c:Operand}{x y:Code}{b:Bool}{u v:Option α}{r:α}(E:Env n a env)(hm:(if b=true then u else v)=some r)(hc:opv env c=some (.bool b))(ht:u=some r->x.wp P Q a w)(hf:v=some r->y.wp P Q a w):(Code.cond c x y).wp P Q a w:=
 cs hm (λhb hm=>N8 E hc (λ_=>ht hm) (λh=>by rw [hb] at h;cases h)) (λhb hm=>N8 E hc (λh=>by rw [hb] at h;cases h) (λ_=>hf hm))
theorem sq{id:Nat}{l:List Oper}{y:Code}(h:wpList P l.toArray (Exit.then (y.wp P Q) Q) l a w):(Code.seq (.region id l.toArray false) y).wp P Q a w:=wS (wG h)
theorem nt{K:Act->WD->Prop}{R:Exit->Act->WD->Prop}(h:K a w):wpList P ops (Exit.then K R) [] a w:=wN (aA h)
theorem nx{R:Exit->Act->WD->Prop}{id:Nat}{l:List Oper}{y:Code}(h:wpList P l.toArray (Exit.then (y.wp P Q) Q) l a w):wpList P ops (Exit.then ((Code.seq (.region id l.toArray false) y).wp P Q) R) [] a w:=nt (sq h)
theorem Pw(E:Env n a env)(hg:o.guard=none){d:Nat}(hd:o.dst=some d)(hdn:Nat.ble (d+1) n=true){f:FuncId}{xs:List Operand}{ts:Array TI}{vs:List VL}{R:VL->WD->Prop}(ho:o.op= .call { callee:=.value (.func f),args:=xs.toArray,argTypes:=ts })(hx:Ai env xs=some vs)
  (hcf:∀ (w:WD) args,(callFunc f args).run P w= .ok (.enter f args) w) (hc:Calls P f vs.toArray w (Ret R)) (k:∀ v w',R v w'->∀ a',Env n a' ((d,v)::env)->wpList P ops Q rest a' w'):wpList P ops Q (o::rest) a w:=
 bP E (wn hg) hd hdn (Ct E ho hx (hcf w)) hc k
theorem lb(E:Env n a env)(H:Sep w os rs)(i:Nat)(hg:o.guard=none){d:Nat}(hd:o.dst=some d)(hdn:Nat.ble (d+1) n=true){p:Nat}{T:TI}{cs:List VL}{x:Operand}{t:TI}{off:Nat}{v:VL}{dd:TypeDesc}
  (ho:o.op= .load t x) (hx:opv env x=some (.pointer (some ⟨p,off,none⟩))) (hi:os[i]? =some (Blk p T cs)) (hc:cs[off]? =some v) (ht:P.underlying t=some dd) (hp:dM dd=true) (k:∀ a',Env n a' ((d,v)::env)->wpList P ops Q rest a' w):wpList P ops Q (o::rest) a w:=
 sv E hg hd hdn (KW (i:=i) E H ho hx hi hc ht hp) k
end
end Go.Cb

namespace Go.Cb
open Go.RowKit
section
variable {α:Type} {a b c d e f g h i x:α} {l:List α}
theorem m0:a ∈ a::l:=.head _
theorem mm1:b ∈ a::b::l:=.tail _ (.head _)
theorem mm2:c ∈ a::b::c::l:=.tail _ (.tail _ (.head _))
theorem mm3:d ∈ a::b::c::d::l:=.tail _ (.tail _ (.tail _ (.head _)))
theorem mm4:e ∈ a::b::c::d::e::l:=.tail _ mm3
theorem mm5:f ∈ a::b::c::d::e::f::l:=.tail _ mm4
theorem mm6:g ∈ a::b::c::d::e::f::g::l:=.tail _ mm5
theorem t1(k:x ∈ l):x ∈ a::l:=.tail _ k
theorem t2(k:x ∈ l):x ∈ a::b::l:=.tail _ (.tail _ k)
theorem t3(k:x ∈ l):x ∈ a::b::c::l:=.tail _ (t2 k)
theorem t4(k:x ∈ l):x ∈ a::b::c::d::l:=.tail _ (t3 k)
theorem t5(k:x ∈ l):x ∈ a::b::c::d::e::l:=.tail _ (t4 k)
theorem t6(k:x ∈ l):x ∈ a::b::c::d::e::f::l:=.tail _ (t5 k)
theorem t7(k:x ∈ l):x ∈ a::b::c::d::e::f::g::l:=.tail _ (t6 k)
theorem t8(k:x ∈ l):x ∈ a::b::c::d::e::f::g::h::l:=.tail _ (t7 k)
end
/-! ### frames that are kept -/
def CZ(env:List (Nat×VL)):List Nat->Option (List (Nat×VL))
 | []=>some []
 | t::ts=>match pJ env t with
  | some v=>match CZ env ts with
   | some r=>some ((t,v)::r)
   | none=>none
  | none=>none
theorem Env.sel {n:Nat} {a:Act} {env:List (Nat×VL)} (E:Env n a env):∀ (ts:List Nat) {env':List (Nat×VL)},CZ env ts=some env'->Env n a env'
 | [],_,h=>by cases h;exact E.nil
 | t::ts,_,h=>by
  simp only [CZ] at h;split at h
  ·rename_i v hv;split at h
   ·rename_i r hr;cases h;exact (E.sel ts hr).keep E t hv
   cases h
  cases h
abbrev pt (p o:Nat):VL:=.pointer (some ⟨p,o,none⟩)
def evP(env:List (Nat×VL)):List (Nat×Operand)->Option (List (Nat×VL))
 | []=>some []
 | (i,x)::r=>match opv env x with
  | some v=>match evP env r with
   | some vs=>some ((i,v)::vs)
   | none=>none
  | none=>none
theorem Env.evs {n:Nat} {a:Act} {env:List (Nat×VL)} (E:Env n a env):∀ {ps:List (Nat×Operand)} {vs:List (Nat×VL)},evP env ps=some vs->ps.map (λp=>(p.1,a.eval p.2))=vs
 | [],_,h=>by cases h;rfl
 | (i,x)::r,_,h=>by
  simp only [evP] at h;split at h
  ·rename_i v hv;split at h
   ·rename_i vs hr;cases h;rw [List.map_cons,E.evs hr,E.eval hv]
   cases h
  cases h
/-! ### places of a list -/
def pkl{α:Type}(l:List α):List Nat->List α
 | []=>[]
 | i::is=>match l[i]? with
  | some x=>x::pkl l is
  | none=>pkl l is
theorem Dw{α:Type}{l:List α}:∀ (is:List Nat) (x:α),x ∈ pkl l is->x ∈ l
 | [],x,h=>by cases h
 | i::is,x,h=>by
  unfold pkl at h;split at h
  ·rename_i y hy;cases h with
   | head=>exact List.mem_of_getElem? hy
   | tail _ h=>exact Dw is x h
  exact Dw is x h
section
variable {P:Program} {ops:Array Oper} {Q:Exit->Act->WD->Prop} {rest:List Oper} {o:Oper} {w:WD} {a:Act} {n:Nat} {env:List (Nat×VL)} {os:List Ob} {rs:List Rp}
theorem UM{id:Nat}(hm:P.follows .mixedOrders=true)(ord:List (Nat×Nat))(is js:List Nat)(H:Sep w os rs)(ho:Kz ops ord=true)(hQ:∀ c a w,Q (.panic c) a w->False)
  (k:∀ w W0,dL (pkl os is) (pkl rs js) W0->Sep w os rs->oN P (dL (pkl os is) (pkl rs js)) ops Q ord a w):(Code.region id ops true).wp P Q a w:=
 have hI:dL (pkl os is) (pkl rs js) { w with drawn:=w.drawn+1 }:=⟨_,_,H.kept (Kp.drawn _ w _),Dw is,Dw js⟩
 Nj _ ord hm ho hQ hI (k _ _ hI (H.kept (Kp.drawn _ w _)))
/-- a free load from a block. -/
theorem fb{os':List Ob}{rs':List Rp}{ord:List (Nat×Nat)}{i:Nat}(E:Env n a env)(hi:ops[i]? =some o)(hw:Region.wanted o (yielded ops a.tmps)=true){dd:Nat}(hd:o.dst=some dd)(hdn:Nat.ble (dd+1) n=true){x:Operand}{t:TI}{p j:Nat}{T:TI}{cs:List VL}{v:VL}{d:TypeDesc}
  (ho:o.op= .load t x) (hx:opv env x=some (.pointer (some ⟨p,j,none⟩))) (hm:Blk p T cs ∈ os') (hj:cs[j]? =some v) (hu:P.underlying t=some d) (hp:dM d=true)
  (k:∀ a',Env n a' ((dd,v)::env)->oN P (dL os' rs') ops Q ord a' w):oN P (dL os' rs') ops Q ((i,0)::ord) a w:=
 dU E hi hw hd hdn (λw hW=>kT E ho hx (KY hm hj hu hp w hW)) k
theorem fbn{os':List Ob}{rs':List Rp}{ord:List (Nat×Nat)}{i:Nat}(E:Env n a env)(us:List VL)(hi:ops[i]? =some o)(hw:Region.wanted o (yielded ops a.tmps)=true){dd:Nat}(hd:o.dst=some dd)(hdn:Nat.ble (dd+1) n=true){x:Operand}{t:TI}{p j:Nat}{T:TI}{cs:List VL}{d:TypeDesc}
  (ho:o.op= .load t x) (hx:opv env x=some (.pointer (some ⟨p,j,none⟩))) (hm:Blk p T cs ∈ os') (hj:(cs.drop j).take us.length=us) (hu:P.underlying t=some d) (hp:dM d=false) (hs:(P.info? t).map (·.size)=some us.length)
  (k:∀ a',Env n a' ((dd,.agg us.toArray)::env)->oN P (dL os' rs') ops Q ord a' w):oN P (dL os' rs') ops Q ((i,0)::ord) a w:=
 dU E hi hw hd hdn (λw hW=>kT E ho hx (K2 hm hj hu hp hs w hW)) k
/-- a free load of a scalar that is read. -/
theorem fa{os':List Ob}{R:List Rp}{ord:List (Nat×Nat)}{i:Nat}(E:Env n a env)(hi:ops[i]? =some o)(hw:Region.wanted o (yielded ops a.tmps)=true){dd:Nat}(hd:o.dst=some dd)(hdn:Nat.ble (dd+1) n=true){α:Type}{f:α->VL}{hf:∀ x,(f x).oneCell'=true}{x:Operand}{t:TI}{q:Addr}{y:α}{c:List VL}{d:TypeDesc}
  (ho:o.op= .load t x) (hx:opv env x=some (.pointer (some q))) (hr:DR R (rAw (Kd.scalar f hf) q y c)) (hu:P.underlying t=some d) (hp:dM d=true)
  (k:∀ a',Env n a' ((dd,f y)::env)->oN P (dL os' R) ops Q ord a' w):oN P (dL os' R) ops Q ((i,0)::ord) a w:=
 dU E hi hw hd hdn (λw hW=>kT E ho hx (UJ (DR.ir (r9 hr)) hu hp w hW)) k
theorem al(E:Env n a env)(H:Sep w os rs)(hg:o.guard=none){dd:Nat}(hd:o.dst=some dd)(hdn:Nat.ble (dd+1) n=true){T:TI}{cs:List VL}(ho:o.op= .alloc T)(hz:(P.info? T).bind (·.zero)=some (.agg cs.toArray))
  (k:∀ p w' a',Sep w' (Blk p T cs::os) rs->Env n a' ((dd,.pointer (some ⟨p,0,none⟩))::env)->wpList P ops Q rest a' w'):wpList P ops Q (o::rest) a w:=
 Xm E H (wn hg) hd hdn ho hz rfl k
theorem al1(E:Env n a env)(H:Sep w os rs)(hg:o.guard=none){dd:Nat}(hd:o.dst=some dd)(hdn:Nat.ble (dd+1) n=true){T:TI}{z:VL}(ho:o.op= .alloc T)(hz:(P.info? T).bind (·.zero)=some z)(hc:z.cells= #[z])
  (k:∀ p w' a',Sep w' (Blk p T [z]::os) rs->Env n a' ((dd,.pointer (some ⟨p,0,none⟩))::env)->wpList P ops Q rest a' w'):wpList P ops Q (o::rest) a w:=
 Xm E H (wn hg) hd hdn ho hz hc k
/-- a load of a struct without slices that is read. -/
theorem ldf{α:Type}{d:Kd α}(F:iF d)(E:Env n a env)(H:Sep w os rs)(hg:o.guard=none){dd:Nat}(hd:o.dst=some dd)(hdn:Nat.ble (dd+1) n=true){x:Operand}{t:TI}{q:Addr}{y:α}{ds:TypeDesc}(ho:o.op= .load t x)(hx:opv env x=some (.pointer (some q)))
  (hm:rAt d q y ∈ rs) (hu:P.underlying t=some ds) (hp:dM ds=false) (hs:(P.info? t).map (·.size)=some d.sz)
  (k:∀ a',Env n a' ((dd,.agg (F.enc y).toArray)::env)->wpList P ops Q rest a' w):wpList P ops Q (o::rest) a w:=by
 refine Cu E H (wn hg) hd hdn ho hx hm hu hp hs λcs a' H' E'=>?_;obtain ⟨_,hc⟩:=H'.rd (.head _);obtain rfl:=F.open' hc;exact k a' E'
end
end Go.Cb

namespace Go.Cb
open Go.RowKit
/-- the address of the element at a place of the row that lies at v; nil if the place is below 0. -/
def orp(v:VL)(i:Int)(sz:Nat):VL:=
 if i < 0 then .pointer none else match v with
  | .slice (some a) _ _=>.pointer (some (a.add (i.toNat * sz)))
  | _=>.pointer (some ⟨0,0,none⟩)
theorem Lb{α:Type}{v:VL}{g m c:Nat}(sz:Nat){xs:List α}{i:Int}{x:α}(hv:v= .slice (some ⟨g,0,none⟩) m c)(hx:idx xs i=some x):orp v i sz= .pointer (some ⟨g,i.toNat * sz,none⟩):=by
 subst hv;unfold idx at hx;split at hx
 ·unfold orp;rw [iN (by omega)];simp only [qG,Nat.zero_add]
 cases hx
theorem J1{α:Type}{xs:List α}{i:Int}{x y:α}(hx:idx xs i=some x):idx (xs.set i.toNat y) i=some y:=by
 unfold idx at *;split at hx
 ·rename_i h;rw [iP h,List.getElem?_set_self (List.getElem?_eq_some_iff.1 hx).1]
 cases hx
section
variable {P:Program} {o:Oper} {w:WD} {a:Act} {n:Nat} {env:List (Nat×VL)}
theorem Rw(E:Env n a env){t t':TI}{x y:Operand}{v:VL}{i:Int}{sz:Nat}(hq:∀ (w:WD) (q:Addr),(Op.equal t (.pointer (some q)) (.pointer none)).run P w= .ok false w)(h0:∀ w:WD,(Op.equal t (.pointer none) (.pointer none)).run P w= .ok true w)
  (ho:o.op= .binOp .neq t x y t') (hx:opv env x=some (orp v i sz)) (hy:opv env y=some (.pointer none)):(execOp a.eval o).run P w= .ok (.value (.bool (decide (0 <= i)))) w:=by
 refine yR E ho hx hy ?_;by_cases hi:i < 0
 ·rw [show orp v i sz= .pointer none from iP hi,show decide (0 <= i)=false from by simp;omega];simp [eqGuard,binOp,Sem.run_bind,h0]
 obtain ⟨q,hq'⟩:∃ q,orp v i sz= .pointer (some q):=by
  unfold orp;rw [iN hi];split <;> exact ⟨_,rfl⟩
 rw [hq',show decide (0 <= i)=true from by simp;omega];simp [eqGuard,binOp,Sem.run_bind,hq]
theorem PV(E:Env n a env){t t':TI}{x y:Operand}{v:VL}{i:Int}{sz:Nat}(hq:∀ (w:WD) (q:Addr),(Op.equal t (.pointer (some q)) (.pointer none)).run P w= .ok false w)(h0:∀ w:WD,(Op.equal t (.pointer none) (.pointer none)).run P w= .ok true w)
  (ho:o.op= .binOp .eql t x y t') (hx:opv env x=some (orp v i sz)) (hy:opv env y=some (.pointer none)):(execOp a.eval o).run P w= .ok (.value (.bool (decide (i < 0)))) w:=by
 refine yR E ho hx hy ?_;by_cases hi:i < 0
 ·rw [show orp v i sz= .pointer none from iP hi,show decide (i < 0)=true from by simp;omega];simp [eqGuard,binOp,Sem.run_bind,h0]
 obtain ⟨q,hq'⟩:∃ q,orp v i sz= .pointer (some q):=by
  unfold orp;rw [iN hi];split <;> exact ⟨_,rfl⟩
 rw [hq',show decide (i < 0)=false from by simp;omega];simp [eqGuard,binOp,Sem.run_bind,hq]
section
variable {os:List Ob} {rs:List Rp}
/-- free loads from a row that is owned. -/
theorem Px{α:Type}{d:Kd α}(E:Env n a env)(F:iF d){x:Operand}{t:TI}{e:TI}{v:VL}{g m c k:Nat}{xs:List α}{j:Int}{y:α}{u:VL}{ds:TypeDesc}(hv:v= .slice (some ⟨g,0,none⟩) m c)(hj:idx xs j=some y)(hm:Row e d v xs ∈ os)(ho:o.op= .load t x)(hx:opv env x=some (.pointer (some ⟨g,j.toNat * d.sz+k,none⟩)))
  (hk:(F.enc y)[k]? =some u) (hu:P.underlying t=some ds) (hp:dM ds=true) (hW:dL os rs w):(execOp a.eval o).run P w= .ok (.value u) w:=by
 obtain ⟨os',rs',H,h1,_⟩:=hW;obtain ⟨i,hi⟩:=List.getElem?_of_mem (h1 _ hm);exact tV E H F hv ho hx hi hj hk hu hp
end
theorem Xt{fn:Func}{r s t u:ResultVar}(hr:fn.results= #[r,s,t,u])(E:Env n a env){v x y z:VL}(h:RV P w env r v)(k:RV P w env s x)(l:RV P w env t y)(m:RV P w env u z):(results fn a.tmps).run P w= .ok (.tuple #[v,x,y,z]) w:=by
 have h1:=h.run E;have h2:=k.run E;have h3:=l.run E;have h4:=m.run E;have e:results fn a.tmps=(do let vs ← (#[r,s,t,u]:Array ResultVar).mapM (Ea a.tmps);pure (if h:vs.size=1 then vs[0] else .tuple vs)):=by
  unfold results;rw [hr];rfl
 rw [e];simp [Sem.run_bind,h1,h2,h3,h4]
theorem LB{fn:Func}{R:VL->WD->Prop}(E:Env n a env){r s t u:ResultVar}(hr:fn.results= #[r,s,t,u]){v x y z:VL}(h1:RV P w env r v)(h2:RV P w env s x)(h3:RV P w env t y)(h4:RV P w env u z)(h:R (.tuple #[v,x,y,z]) w):bodyPost P fn (Ret R) .ret a w:=
 ⟨E.defers,_,Xt hr E h1 h2 h3 h4,h⟩
end
end Go.Cb

namespace Go.Cb
open Go.RowKit
section
variable {P:Program} {w:WD} {os:List Ob} {rs:List Rp} {k e t:TI} {b n:Nat} {f:List UInt8->Option Int}
end
section
variable {P:Program} {ops:Array Oper} {Q:Exit->Act->WD->Prop} {rest:List Oper} {o:Oper} {w:WD} {a:Act} {n:Nat} {env:List (Nat×VL)} {os:List Ob} {rs:List Rp} {k e t:TI} {b m:Nat} {f:List UInt8->Option Int}
end
end Go.Cb

set_option linter.unusedSectionVars false
namespace Go.Cb
open Go.RowKit Go.Proofs
section
variable {α:Type} [Inhabited α] {d:Kd α} {w:WD} {os:List Ob} {rs:List Rp}
theorem Np(H:Sep w os rs){i:Nat}{e:TI}{g c:Nat}{xs:List α}(hi:os[i]? =some (Row e d (.slice (some ⟨g,0,none⟩) xs.length c) xs)):g < w.heap.size/\∀ j,w.frozen? ⟨g,j,none⟩=false:=by
 obtain ⟨_,_,flat,⟨hl,h⟩,hr,_⟩:=H.ob i hi;rcases h with ⟨h,_⟩ | ⟨g',cap,cur,hv,_,hh,hn,_,hs,ht⟩
 ·cases h
 cases hv;exact ⟨(Array.getElem?_eq_some_iff.1 hh).1,λj=>by simp [World.frozen?,hh]⟩
theorem Fh(H:Sep w os rs)(F:iF d){i:Nat}{e:TI}{g c:Nat}{xs:List α}(hi:os[i]? =some (Row e d (.slice (some ⟨g,0,none⟩) xs.length c) xs)):Sort.HoldsK F.enc d.sz w g 0 xs.toArray:=by
 intro j hj;rw [Sort.size_flatK] at hj;have hpos:=d.pos;have hj':j < d.sz * xs.length:=by rw [Nat.mul_comm];simpa using hj
 have hq:j / d.sz < xs.length:=Nat.div_lt_of_lt_mul hj';have hm:=Nat.mod_lt j hpos;refine ⟨?_,(Np H hi).2 _⟩;rw [Sort.get_flatK _ _ _ _ hj];have e1:xs.toArray[j / d.sz]! =xs[j / d.sz]:=by simp [hq]
 have hl:j % d.sz < (F.enc xs[j / d.sz]).length:=by rw [F.len];exact hm
 have h5:=Fe H F hi (j:=((j / d.sz:Nat):Int)) (y:=xs[j / d.sz]) (by unfold idx;rw [iP (Int.natCast_nonneg _),Int.toNat_natCast,List.getElem?_eq_getElem hq]) (k:=j % d.sz) (List.getElem?_eq_getElem hl);have e2:j / d.sz * d.sz+j % d.sz=0+j:=by rw [Nat.zero_add,Nat.mul_comm];exact Nat.div_add_mod j d.sz
 rw [Int.toNat_natCast,e2] at h5;rw [h5,e1,getElem!_pos (F.enc xs[j / d.sz]) (j % d.sz) hl];rfl
theorem FG(F:iF d)(ys:List α)(i:Nat){x:α}(hx:ys[i]? =some x):((Sort.flatK F.enc d.sz ys.toArray).toList.drop (i * d.sz)).take d.sz=F.enc x:=by
 obtain ⟨hi,rfl⟩:=List.getElem?_eq_some_iff.1 hx;have hpos:=d.pos;have hle:i * d.sz+d.sz <= ys.length * d.sz:=by
  have:=Nat.mul_le_mul_right d.sz (show i+1 <= ys.length from hi);rwa [Nat.add_mul,Nat.one_mul] at this
 have hsz:(Sort.flatK F.enc d.sz ys.toArray).size=ys.length * d.sz:=by rw [Sort.size_flatK];simp
 apply List.ext_getElem
 ·rw [List.length_take,List.length_drop,Array.length_toList,hsz,F.len];omega
 intro j h1 h2;rw [F.len] at h2;rw [List.getElem_take,List.getElem_drop,Array.getElem_toList];have hj:i * d.sz+j < ys.toArray.size * d.sz:=by simp;omega
 have:=Sort.get_flatK F.enc d.sz ys.toArray (i * d.sz+j) hj;rw [getElem!_pos (Sort.flatK F.enc d.sz ys.toArray) _ (by rw [hsz];omega)] at this;rw [this];have q:(i * d.sz+j) / d.sz=i:=by rw [Nat.add_comm,Nat.add_mul_div_right _ _ hpos,Nat.div_eq_of_lt h2,Nat.zero_add]
 have r:(i * d.sz+j) % d.sz=j:=by rw [Nat.add_comm,Nat.add_mul_mod_self_right,Nat.mod_eq_of_lt h2]
 rw [q,r];have e1:ys.toArray[i]! =ys[i]:=by simp [hi]
 rw [e1,getElem!_pos (F.enc ys[i]) j (by rw [F.len];exact h2)]
theorem Sep.sorted (H:Sep w os rs) (F:iF d) {i:Nat} {e:TI} {g c:Nat} {xs:List α} (hi:os[i]? =some (Row e d (.slice (some ⟨g,0,none⟩) xs.length c) xs)) (m:Nat) (ys:List α) (hs:ys.length=xs.length) (os':Array Obj) :
  Sep (sortWorldK F.enc d.sz w g 0 m ys.toArray os') (os.set i (Row e d (.slice (some ⟨g,0,none⟩) xs.length c) ys)) rs:=by
 obtain ⟨col,h1,h2⟩:=H;obtain ⟨flat,⟨hl,hv⟩,hr,ho⟩:=h1 i _ hi;rcases hv with ⟨h,_⟩ | ⟨g',cap,cur,hv,hb,hh,hn,hc,hcs,ht⟩
 ·cases h
 cases hv;have hg:col g=i+1:=ho g rfl;have hgl:g < w.heap.size:=(Array.getElem?_eq_some_iff.1 hh).1;have hfl:(Sort.flatK F.enc d.sz ys.toArray).size=xs.length * d.sz:=by rw [Sort.size_flatK];simp [hs]
 have heap:∀ b,b < w.heap.size->(sortWorldK F.enc d.sz w g 0 m ys.toArray os').heap[b]? =if g=b then (w.heap[b]?).map (Sort.onCells (Sort.putCells id 0 (Sort.flatK F.enc d.sz ys.toArray))) else w.heap[b]? :=λb hb=>by
  unfold sortWorldK Sort.grow Sort.putRowK Sort.putRow Sort.mapBlock Sort.ahead;simp only;rw [Array.getElem?_append_left (by simpa using hb),Array.getElem?_modify]
 have hsize:w.heap.size <= (sortWorldK F.enc d.sz w g 0 m ys.toArray os').heap.size:=by
  unfold sortWorldK Sort.grow Sort.putRowK Sort.putRow Sort.mapBlock Sort.ahead;simp
 refine Sep.upd_col h1 h2 i hi ⟨rfl,rfl,rfl,hsize,λb hb hk=>?_⟩ ⟨(Sort.flatK F.enc d.sz ys.toArray).toList,⟨?_,.inr ⟨g,c,Sort.putCells id 0 (Sort.flatK F.enc d.sz ys.toArray) cur,?_,hb,?_,?_,hc,?_,?_⟩⟩,⟨?_,λj x hx=>?_⟩,λg' hg'=>?_⟩
 ·rw [heap b hb,iN (λh=>hk (by subst h;exact hg))]
 ·rw [Array.length_toList,hfl,hs]
 ·rw [hs]
 ·rw [heap g hgl,iP rfl,hh];rfl
 ·omega
 ·simp [Sort.putCells,hcs]
 ·apply List.ext_getElem?;intro j;have hle:xs.length * d.sz <= cur.size:=by rw [hcs];exact Nat.mul_le_mul_right _ hn
  rw [hs,List.getElem?_take,Array.getElem?_toList,Array.getElem?_toList];split
  ·rename_i hj;have hjc:j < cur.size:=Nat.lt_of_lt_of_le hj hle;have hjf:j < (Sort.flatK F.enc d.sz ys.toArray).size:=by rw [hfl];exact hj
   unfold Sort.putCells;rw [Array.getElem?_mapIdx,Array.getElem?_eq_getElem hjc,Option.map_some,iP ⟨Nat.zero_le _,by rw [Nat.zero_add];exact hjf⟩,Nat.sub_zero,getElem!_pos (Sort.flatK F.enc d.sz ys.toArray) j hjf,Array.getElem?_eq_getElem hjf];rfl
  rename_i hj;rw [Array.getElem?_eq_none (by rw [hfl];exact Nat.le_of_not_lt hj)]
 ·rw [Array.length_toList,hfl,hs]
 ·rw [FG F ys j hx];exact F.mk'
 cases hg';exact .inl hg
end
end Go.Cb

namespace Go.Cb
open Go.Proofs Go.RowKit

def zb(s:ByteArray):List UInt8:=s.data.toList
theorem Ty(s:ByteArray):s.size=(zb s).length:=by simp [zb]
theorem Fi(a:List UInt8):¬ a < a:=List.lt_irrefl a
theorem Py{a b c:List UInt8}(h:a < b)(k:b < c):a < c:=List.lt_trans h k
theorem PW(a b:List UInt8):a < b∨a=b∨b < a:=by
 rcases Decidable.em (a < b) with h | h
 ·exact .inl h
 rcases Decidable.em (b < a) with k | k
 ·exact .inr (.inr k)
 exact .inr (.inl (List.le_antisymm (List.not_lt.1 k) (List.not_lt.1 h)))
theorem Xu{a b:List UInt8}(h:a < b):¬ b < a:=λk=>Fi _ (Py h k)
theorem Xv(a:List UInt8){b c:List UInt8}(h:b < c):a ++ b < a ++ c:=by
 induction a with
 | nil=>exact h
 | cons x a ih=>exact List.Lex.cons ih
theorem FH(a:List UInt8){b:List UInt8}(h:b ≠ []):a < a ++ b:=by
 have:=Xv a (b:=[]) (c:=b) (by cases b with | nil=>exact absurd rfl h | cons x b=>exact List.Lex.nil);simpa using this
theorem LY(s t:ByteArray):Extern.BytealgCompare.cmp s t=if zb s < zb t then -1 else if zb s=zb t then 0 else 1:=by
 have hs:=Ty s;have ht:=Ty t;have hat:∀ (u:ByteArray) (i:Nat) (hi:i < (zb u).length),u[i]! =(zb u)[i]:=λu i hi=>by
  rw [getElem!_pos u i (by rw [Ty];exact hi)];rfl
 unfold Extern.BytealgCompare.cmp;cases hf:(List.range (min s.size t.size)).find? (λi=>s[i]! != t[i]!) with
 | some i=>
  rw [List.find?_range_eq_some] at hf;obtain ⟨h1,h2,h3⟩:=hf;rw [List.mem_range] at h2;have hi1:i < (zb s).length:=by omega
  have hi2:i < (zb t).length:=by omega
  rw [hat s i hi1,hat t i hi2] at h1;have hne:(zb s)[i] ≠ (zb t)[i]:=by simpa using h1
  have hpre:(zb s).take i=(zb t).take i:=by
   apply List.ext_getElem?;intro j;rw [List.getElem?_take,List.getElem?_take];by_cases hj:j < i
   ·rw [iP hj,iP hj];have:=h3 j hj;rw [hat s j (by omega),hat t j (by omega)] at this;have:(zb s)[j]=(zb t)[j]:=by simpa using this
    rw [List.getElem?_eq_getElem (by omega),List.getElem?_eq_getElem (by omega),this]
   rw [iN hj,iN hj]
  have es:zb s=(zb s).take i ++ (zb s)[i]::(zb s).drop (i+1):=by rw [← List.drop_eq_getElem_cons hi1,List.take_append_drop]
  have et:zb t=(zb s).take i ++ (zb t)[i]::(zb t).drop (i+1):=by rw [hpre,← List.drop_eq_getElem_cons hi2,List.take_append_drop]
  have heq:zb s ≠ zb t:=λe=>hne (by simp only [e]);simp only;rw [hat s i hi1,hat t i hi2];rcases UInt8.lt_or_lt_of_ne hne with h | h
  ·have:zb s < zb t:=by
    rw [es,et];exact Xv _ (List.Lex.rel h)
   rw [iP h,iP this]
  have:zb t < zb s:=by
   rw [es,et];exact Xv _ (List.Lex.rel h)
  rw [iN (λh'=>absurd (UInt8.lt_trans h h') (UInt8.lt_irrefl _)),iN (Xu this),iN heq]
 | none=>
  rw [List.find?_eq_none] at hf;have hall:∀ j,j < (zb s).length->j < (zb t).length->(zb s)[j]? =(zb t)[j]? :=λj h1 h2=>by
   have:=hf j (List.mem_range.2 (by omega));rw [hat s j h1,hat t j h2] at this;have:(zb s)[j]=(zb t)[j]:=by simpa using this
   rw [List.getElem?_eq_getElem h1,List.getElem?_eq_getElem h2,this]
  simp only;rw [hs,ht];by_cases h1:(zb s).length < (zb t).length
  ·have e:zb t=zb s ++ (zb t).drop (zb s).length:=by
    conv=>lhs;rw [← List.take_append_drop (zb s).length (zb t)]
    congr 1;apply List.ext_getElem?;intro j;rw [List.getElem?_take];by_cases hj:j < (zb s).length
    ·rw [iP hj,hall j hj (by omega)]
    rw [iN hj,List.getElem?_eq_none (by omega)]
   have:zb s < zb t:=by
    rw [e];exact FH _ (by intro h;have:=congrArg List.length h;simp at this;omega)
   rw [iP h1,iP this]
  rw [iN h1];by_cases h2:(zb s).length > (zb t).length
  ·have e:zb s=zb t ++ (zb s).drop (zb t).length:=by
    conv=>lhs;rw [← List.take_append_drop (zb t).length (zb s)]
    congr 1;apply List.ext_getElem?;intro j;rw [List.getElem?_take];by_cases hj:j < (zb t).length
    ·rw [iP hj,hall j (by omega) hj]
    rw [iN hj,List.getElem?_eq_none (by omega)]
   have:zb t < zb s:=by
    rw [e];exact FH _ (by intro h;have:=congrArg List.length h;simp at this;omega)
   rw [iP h2,iN (Xu this),iN (λe=>Fi _ (e ▸ this))]
  have e:zb s=zb t:=by
   apply List.ext_getElem?;intro j;by_cases hj:j < (zb s).length
   ·exact hall j hj (by omega)
   rw [List.getElem?_eq_none (by omega),List.getElem?_eq_none (by omega)]
  rw [iN h2,e,iN (Fi _),iP rfl]
theorem Tz(s t:ByteArray):decide (Extern.BytealgCompare.cmp s t < 0)=decide (zb s < zb t):=by
 rw [LY];by_cases h:zb s < zb t
 ·rw [iP h];simp [h]
 rw [iN h];split <;> simp [h]
theorem DA{α:Type}(f:α->ByteArray):Sort.SWO (ltOf λx y=>Extern.BytealgCompare.cmp (f x) (f y)):=by
 have e:∀ x y,ltOf (λx y=>Extern.BytealgCompare.cmp (f x) (f y)) x y=decide (zb (f x) < zb (f y)):=λx y=>Tz _ _;refine ⟨λx=>?_,λx y z h1 h2=>?_,λx y z h1 h2=>?_⟩
 ·rw [e];simp [Fi]
 ·rw [e] at h1 h2 ⊢;simp only [decide_eq_true_eq] at h1 h2 ⊢;exact Py h1 h2
 rw [e] at h1 h2 ⊢;simp only [decide_eq_false_iff_not] at h1 h2 ⊢;intro h;rcases PW (zb (f y)) (zb (f x)) with g | g | g
 ·exact h2 (Py g h)
 ·exact h2 (g ▸ h)
 exact h1 g
end Go.Cb

namespace Go.Cb
open Go.RowKit
section
variable {P:Program} {os:List Ob} {rs R:List Rp} {w:WD}
end
end Go.Cb

namespace Go.Cb
open Go.RowKit

section
variable {κ α:Type} [DecidableEq κ]
def dN:List (κ×α)->κ->Option α
 | [],_=>none
 | (k,x)::l,j=>if k=j then some x else dN l j
def lX:List (κ×α)->κ->α->List (κ×α)
 | [],j,y=>[(j,y)]
 | (k,x)::l,j,y=>if k=j then (k,y)::l else (k,x)::lX l j y
theorem uW(l:List (κ×α))(j:κ)(y:α):dN (lX l j y) j=some y:=by
 induction l with
 | nil=>simp [lX,dN]
 | cons p l ih=>
  obtain ⟨k,x⟩:=p;unfold lX;split
  ·rename_i h;simp [dN,h]
  rename_i h;simp [dN,h,ih]
theorem qH(l:List (κ×α)){j i:κ}(h:i ≠ j)(y:α):dN (lX l j y) i=dN l i:=by
 induction l with
 | nil=>simp [lX,dN,Ne.symm h]
 | cons p l ih=>
  obtain ⟨k,x⟩:=p;unfold lX;split
  ·rename_i e;subst e;simp [dN,Ne.symm h]
  unfold dN;rw [ih]
theorem C9(l:List (κ×α))(j:κ)(y:α):(lX l j y).length=if (dN l j).isSome=true then l.length else l.length+1:=by
 induction l with
 | nil=>simp [lX,dN]
 | cons p l ih=>
  obtain ⟨k,x⟩:=p;unfold lX dN;split
  ·simp
  rw [List.length_cons,ih];split <;> simp
end
/-- what may be there, or not. -/
def Ip{α β:Type}(u:Option α)(a:Option β)(f:α->Option β):Option β:=match u with
 | none=>a
 | some x=>f x
theorem Lc{α β:Type}{a:Option β}{f:α->Option β}{r:β}(h:Ip none a f=some r):a=some r:=h
theorem Ld{α β:Type}{x:α}{a:Option β}{f:α->Option β}{r:β}(h:Ip (some x) a f=some r):f x=some r:=h
/-- keys as literals, and as values. -/
structure Ky (κ:Type) where
 lit:κ->Lit
 val:κ->VL
 ok:κ->Bool
 inj:∀ {a b:κ},ok a=true->ok b=true->lit a=lit b->a=b
 key:∀ a,WideAt.IsKeyLit (lit a)
def kyI(k:IntKind):Ky Int:=⟨.int k,.int k,λi=>(Lit.int k i).wf,λ_ _ h=>by cases h;rfl,λ_=>by first | exact trivial | exact .int _ _ | simp [WideAt.IsKeyLit]⟩
/-- what is looked up, what is put: none, if the key may not be, or there is no room. -/
def mlk{κ α:Type} [DecidableEq κ] (K:Ky κ) (l:List (κ×α)) (j:κ):Option (Option α):=if K.ok j=true then some (dN l j) else none
def mpt{κ α:Type} [DecidableEq κ] (K:Ky κ) (l:List (κ×α)) (j:κ) (x:α):Option (List (κ×α)):=if K.ok j=true/\l.length < maxLen then some (lX l j x) else none
theorem Ec{κ α:Type} [DecidableEq κ] {K:Ky κ} {l:List (κ×α)} {j:κ} {u:Option α} (h:mlk K l j=some u):K.ok j=true/\dN l j=u:=by
 unfold mlk at h;split at h
 ·cases h;exact ⟨by assumption,rfl⟩
 cases h
theorem Xw{κ α:Type} [DecidableEq κ] {K:Ky κ} {l l':List (κ×α)} {j:κ} {x:α} (h:mpt K l j x=some l'):K.ok j=true/\l.length < maxLen/\lX l j x=l':=by
 unfold mpt at h;split at h
 ·rename_i c;cases h;exact ⟨c.1,c.2,rfl⟩
 cases h
def E4(P:Program)(k:TI){κ:Type}(K:Ky κ):Prop:=Maps.Keyed P k/\∀ j,K.ok j=true->keyOf P k (K.val j)=some (K.lit j)
theorem gH{P:Program}{k:TI}{q:IntKind}(hk:P.underlying k=some (.int q)):E4 P k (kyI q):=⟨Maps.int_keyed hk,λj h=>Maps.keyOf_int_mk hk h⟩
def rdV(v:VL):Option (DataW VL×List MemPlace):=some (.held v,[])
def vOf(g:Bool)(cs:List VL):VL:=if g=true then .agg cs.toArray else cs.headD undef
theorem FI{w:WD}{P:Program}{k:TI}{b n:Nat}{D:DataW VL}(h:w.ownsMap P k rdV b n D):w.ownsMap P k rdV b (Maps.size D) D:=by
 obtain ⟨es,clock,hb,F,hs,rfl⟩:=h;exact ⟨es,clock,hb,F,by simp [Maps.size,length_sorted],rfl⟩
def bW{κ α:Type} [DecidableEq κ] (P:Program) (kt:TI) (K:Ky κ) (d:Kd α) (g:Bool) (b:Nat) (l:List (κ×α)):Ob where
 p w own ok:=own b/\∃ D:DataW VL,w.ownsMap P kt rdV b l.length D/\Maps.size D=l.length/\Maps.Tidy D/\(∀ j,K.ok j=true->dN l j=none->Maps.has D (K.lit j)=false)/\∀ j x,K.ok j=true->dN l j=some x->∃ cs,Maps.has D (K.lit j)=true/\(∀ z,D.atKey (K.lit j) z= .held (vOf g cs))/\d.R w ok x cs
 keep:=by
  rintro w w' own own' ok ok' ⟨h1,D,h2,h3,h4,h5,h6⟩ k ho hk;have hlt:=h2.lt;refine ⟨ho b hlt h1,D,?_,h3,h4,h5,λj x hj hx=>?_⟩
  ·obtain ⟨es,clock,hb,F,hs,hD⟩:=h2;exact ⟨es,clock,(k.block b hlt (.inl h1)).trans hb,F,hs,hD⟩
  obtain ⟨cs,c1,c2,c3⟩:=h6 j x hj hx;exact ⟨cs,c1,c2,d.keep c3 (k.mono λ_ _ h=>.inr h) hk⟩
section
variable {κ α:Type} [DecidableEq κ] {P:Program} {w:WD} {os:List Ob} {rs:List Rp} {k e t:TI} {K:Ky κ} {d:Kd α} {g:Bool} {b:Nat} {l:List (κ×α)}
theorem Sep.newMapL (H:Sep w os rs) (P:Program) (k:TI) (K:Ky κ) (d:Kd α) (g:Bool):Sep (w.alloc (.map #[] 0)) (bW P k K d g w.heap.size []::os) rs:=
 H.new (Kp.alloc _ w _) λok _=>⟨Nat.le_refl _,_,World.ownsMap_made w P k _,rfl,Maps.tidy_empty,λ_ _ _=>rfl,λj x _ h=>by cases h⟩
theorem Ad(c:Bool){own ok:Nat->Prop}(h:(bW P k K d g b l).p w own ok)(hK:Maps.Keyed P k)(ht:P.underlying t=some (.map k e)){z0:α}{zc:List VL}(hz:(P.info? e).bind (·.zero)=some (vOf g zc))(hR:d.R w ok z0 zc){j:κ}(ho:K.ok j=true)(hj:keyOf P k (K.val j)=some (K.lit j)) :
  ∃ cs,(Instr.lookup t (.map (some b)) (K.val j) c).run P w= .ok (if c=true then .tuple #[vOf g cs,.bool (dN l j).isSome] else vOf g cs) w/\d.R w ok ((dN l j).getD z0) cs:=by
 obtain ⟨_,D,h2,h3,h4,h5,h6⟩:=h;have hzr:rdV (vOf g zc)=some (.held (vOf g zc),[]):=rfl;have main:∃ cs,d.R w ok ((dN l j).getD z0) cs/\D.atKey (K.lit j) (.held (vOf g zc))= .held (vOf g cs)/\Maps.has D (K.lit j)=(dN l j).isSome:=by
  cases ha:dN l j with
  | none=>exact ⟨zc,hR,Maps.atKey_of_not_has (h5 j ho ha) _,h5 j ho ha⟩
  | some x=>
   obtain ⟨cs,c1,c2,c3⟩:=h6 j x ho ha;exact ⟨cs,c3,c2 _,c1⟩
 obtain ⟨cs,m1,m2,m3⟩:=main;refine ⟨cs,?_,m1⟩;cases c with
 | true=>
  obtain ⟨v,ps,hr,hv⟩:=h2.look_ok hK ht (Eb hz w) hzr hj;have:v=vOf g cs:=by
   have e1:=congrArg (Option.map Prod.fst) hv;simp only [rdV,Option.map_some,m2] at e1;cases e1;rfl
  rw [hr,m3,this];rfl
 | false=>
  obtain ⟨v,ps,hr,hv⟩:=h2.lookup hK ht (Eb hz w) hzr hj;have:v=vOf g cs:=by
   have e1:=congrArg (Option.map Prod.fst) hv;simp only [rdV,Option.map_some,m2] at e1;cases e1;rfl
  rw [hr,this];rfl
theorem Sep.mapPutL (H:Sep w os rs) {i:Nat} (hi:os[i]? =some (bW P k K d g b l)) (hK:Maps.Keyed P k) (ht:P.underlying t=some (.map k e)) {j:κ} (hok:K.ok j=true) (hj:keyOf P k (K.val j)=some (K.lit j)) {x:α} {cs:List VL} (hR:∀ ok,(∀ r:Rp,r ∈ rs->r.p w ok)->d.R w ok x cs) (hn:l.length < maxLen) :
  ∃ w',(Instr.mapUpdate t (.map (some b)) (K.val j) (vOf g cs)).run P w= .ok () w'/\Sep w' (os.set i (bW P k K d g b (lX l j x))) rs:=by
 obtain ⟨col,h1,h2⟩:=H;obtain ⟨hb,D,hD,hs,hT,h5,h6⟩:=h1 i _ hi;obtain ⟨w',hr,hD',hg⟩:=hD.update hK ht hn hj (show rdV (vOf g cs)=some (.held (vOf g cs),[]) from rfl);have hsz:Maps.size (D.put (K.lit j) (.held (vOf g cs)))=(lX l j x).length:=by
  rw [Maps.size_put hT,C9,hs];cases ha:dN l j with
  | none=>rw [h5 j hok ha];rfl
  | some y=>obtain ⟨c,c1,_⟩:=h6 j y hok ha;rw [c1];rfl
 have kp:Kp (λc=>¬ col c=i+1) w w':=(Kp.grown hg).mono λc _ hc e=>hc (by cases e;exact hb);refine ⟨w',hr,Sep.upd_col h1 h2 i hi kp ⟨.inl hb,D.put (K.lit j) (.held (vOf g cs)),by rw [← hsz];exact FI hD',hsz,hT.put (K.key j) _,λm hmo hm=>?_,λm y hmo hm=>?_⟩⟩
 ·by_cases e':m=j
  ·subst e';rw [uW] at hm;cases hm
  rw [qH l e'] at hm;rw [Maps.has_put_other (λh=>e' (K.inj hmo hok h))];exact h5 m hmo hm
 have keep:∀ {y:α} {c:List VL},d.R w (λb=>col b=0) y c->d.R w' (λb=>col b=0/\b < w.heap.size) y c:=λh=>d.keep h (kp.mono λc _ hc=>by omega) (λb hb h=>⟨h,hb⟩);by_cases e':m=j
 ·subst e';rw [uW] at hm;cases hm;exact ⟨cs,Maps.has_put_same hT.isMap (K.key _) _,λz=>Maps.atKey_put_same hT.isMap (K.key _) _ _,keep (hR _ h2)⟩
 rw [qH l e'] at hm;obtain ⟨c,c1,c2,c3⟩:=h6 m y hmo hm;exact ⟨c,by rw [Maps.has_put_other (λh=>e' (K.inj hmo hok h))];exact c1,λz=>by rw [Maps.atKey_put_other (λh=>e' (K.inj hmo hok h))];exact c2 z,keep c3⟩
end
section
variable {κ α:Type} [DecidableEq κ] {P:Program} {ops:Array Oper} {Q:Exit->Act->WD->Prop} {rest:List Oper} {o:Oper} {w:WD} {a:Act} {n:Nat} {env:List (Nat×VL)} {os:List Ob} {rs:List Rp} {k e t:TI} {K:Ky κ} {d:Kd α} {g:Bool} {b:Nat} {l:List (κ×α)}
theorem L8(E:Env n a env)(H:Sep w os rs)(hw:Region.wanted o (yielded ops a.tmps)=true){dd:Nat}(hd:o.dst=some dd)(hdn:Nat.ble (dd+1) n=true)(ho:o.op= .makeMap t none)
  (Kn:∀ b w' a',Sep w' (bW P k K d g b []::os) rs->Env n a' ((dd,.map (some b))::env)->wpList P ops Q rest a' w'):wpList P ops Q (o::rest) a w:=by
 refine eS E hw hd hdn (v:=.map (some w.heap.size)) (w':=w.alloc (.map #[] 0)) ?_ λa' E'=>Kn _ _ a' (H.newMapL P k K d g) E';simp only [execOp,ho];have:=run_makeMap (P:=P) t w;simp [Sem.run_bind,this,Result.andThen]
theorem IE(E:Env n a env)(H:Sep w os rs)(hw:Region.wanted o (yielded ops a.tmps)=true){dd:Nat}(hd:o.dst=some dd)(hdn:Nat.ble (dd+1) n=true){x y:Operand}{i:Nat}{j:κ}(ho:o.op= .lookup t x y true)(hx:opv env x=some (.map (some b)))(hy:opv env y=some (K.val j))(hi:os[i]? =some (bW P k K d true b l))
  (hK:E4 P k K) (ht:P.underlying t=some (.map k e)) {z0:α} {zc:List VL} (hz:(P.info? e).bind (·.zero)=some (.agg zc.toArray)) (hR:∀ (w:WD) ok,d.R w ok z0 zc) {u:Option α} (hu:mlk K l j=some u)
  (Kn:∀ cs a',Sep w os (rCs d cs (u.getD z0)::rs)->Env n a' ((dd,.tuple #[.agg cs.toArray,.bool u.isSome])::env)->wpList P ops Q rest a' w):wpList P ops Q (o::rest) a w:=by
 obtain ⟨hok,rfl⟩:=Ec hu;obtain ⟨col,h1,h2⟩:=H;obtain ⟨cs,hr,hcs⟩:=Ad (zc:=zc) true (h1 i _ hi) hK.1 ht hz (hR _ _) hok (hK.2 j hok);refine eS E hw hd hdn (v:=_) (w':=w) ?_ λa' E'=>Kn cs a' ⟨col,h1,λr hr'=>?_⟩ E'
 ·simp only [execOp,ho,E.eval hx,E.eval hy];simp [Sem.run_bind,hr,Result.andThen,vOf]
 cases hr' with
 | head=>exact hcs
 | tail _ hr'=>exact h2 r hr'
theorem FJ(E:Env n a env)(H:Sep w os rs)(hw:Region.wanted o (yielded ops a.tmps)=true){dd:Nat}(hd:o.dst=some dd)(hdn:Nat.ble (dd+1) n=true){x y:Operand}{i:Nat}{j:κ}(ho:o.op= .lookup t x y false)(hx:opv env x=some (.map (some b)))(hy:opv env y=some (K.val j))(hi:os[i]? =some (bW P k K d true b l))
  (hK:E4 P k K) (ht:P.underlying t=some (.map k e)) {z0:α} {zc:List VL} (hz:(P.info? e).bind (·.zero)=some (.agg zc.toArray)) (hR:∀ (w:WD) ok,d.R w ok z0 zc) {u:Option α} (hu:mlk K l j=some u)
  (Kn:∀ cs a',Sep w os (rCs d cs (u.getD z0)::rs)->Env n a' ((dd,.agg cs.toArray)::env)->wpList P ops Q rest a' w):wpList P ops Q (o::rest) a w:=by
 obtain ⟨hok,rfl⟩:=Ec hu;obtain ⟨col,h1,h2⟩:=H;obtain ⟨cs,hr,hcs⟩:=Ad (zc:=zc) false (h1 i _ hi) hK.1 ht hz (hR _ _) hok (hK.2 j hok);refine eS E hw hd hdn (v:=_) (w':=w) ?_ λa' E'=>Kn cs a' ⟨col,h1,λr hr'=>?_⟩ E'
 ·simp only [execOp,ho,E.eval hx,E.eval hy];simp [Sem.run_bind,hr,Result.andThen,vOf]
 cases hr' with
 | head=>exact hcs
 | tail _ hr'=>exact h2 r hr'
section
variable {f:α->VL} {hf:∀ x,(f x).oneCell'=true}
theorem LZ(E:Env n a env)(H:Sep w os rs){x y:Operand}{i:Nat}{j:κ}(ho:o.op= .lookup t x y true)(hx:opv env x=some (.map (some b)))(hy:opv env y=some (K.val j))(hi:os[i]? =some (bW P k K (Kd.scalar f hf) false b l))
  (hK:E4 P k K) (ht:P.underlying t=some (.map k e)) {z0:α} (hz:(P.info? e).bind (·.zero)=some (f z0)) {u:Option α} (hu:mlk K l j=some u):(execOp a.eval o).run P w= .ok (.value (.tuple #[f (u.getD z0),.bool u.isSome])) w:=by
 obtain ⟨hok,rfl⟩:=Ec hu;obtain ⟨own,ok,h⟩:=H.ob i hi;obtain ⟨cs,hr,hcs⟩:=Ad (zc:=[f z0]) true h hK.1 ht hz rfl hok (hK.2 j hok);have hcs':cs= [f ((dN l j).getD z0)]:=hcs;subst hcs';simp only [execOp,ho,E.eval hx,E.eval hy];simp [Sem.run_bind,hr,Result.andThen,vOf]
theorem Xx(E:Env n a env)(H:Sep w os rs){x y:Operand}{i:Nat}{j:κ}(ho:o.op= .lookup t x y false)(hx:opv env x=some (.map (some b)))(hy:opv env y=some (K.val j))(hi:os[i]? =some (bW P k K (Kd.scalar f hf) false b l))
  (hK:E4 P k K) (ht:P.underlying t=some (.map k e)) {z0:α} (hz:(P.info? e).bind (·.zero)=some (f z0)) {u:Option α} (hu:mlk K l j=some u):(execOp a.eval o).run P w= .ok (.value (f (u.getD z0))) w:=by
 obtain ⟨hok,rfl⟩:=Ec hu;obtain ⟨own,ok,h⟩:=H.ob i hi;obtain ⟨cs,hr,hcs⟩:=Ad (zc:=[f z0]) false h hK.1 ht hz rfl hok (hK.2 j hok);have hcs':cs= [f ((dN l j).getD z0)]:=hcs;subst hcs';simp only [execOp,ho,E.eval hx,E.eval hy];simp [Sem.run_bind,hr,Result.andThen,vOf]
theorem BN(E:Env n a env)(H:Sep w os rs)(hw:Region.wanted o (yielded ops a.tmps)=true)(hd:o.dst=none){x y z:Operand}{i:Nat}{j:κ}{v:α}(ho:o.op= .mapUpdate t x y z)(hx:opv env x=some (.map (some b)))(hy:opv env y=some (K.val j))(hz:opv env z=some (f v))
  (hi:os[i]? =some (bW P k K (Kd.scalar f hf) false b l)) (hK:E4 P k K) (ht:P.underlying t=some (.map k e)) {l':List (κ×α)} (hu:mpt K l j v=some l')
  (Kn:∀ w',Sep w' (os.set i (bW P k K (Kd.scalar f hf) false b l')) rs->wpList P ops Q rest a w'):wpList P ops Q (o::rest) a w:=by
 obtain ⟨hok,hn,rfl⟩:=Xw hu;obtain ⟨w',hr,H'⟩:=H.mapPutL (t:=t) (cs:=[f v]) hi hK.1 ht hok (hK.2 j hok) (λ_ _=>rfl) hn;refine Bo E hw hd (w':=w') ?_ (Kn w' H');have hr':(Instr.mapUpdate t (.map (some b)) (K.val j) (f v)).run P w= .ok () w':=hr;simp only [execOp,ho,E.eval hx,E.eval hy,E.eval hz];simp [Sem.run_bind,hr']
end
theorem Br(E:Env n a env)(H:Sep w os rs)(hw:Region.wanted o (yielded ops a.tmps)=true)(hd:o.dst=none){x y z:Operand}{i:Nat}{j:κ}{v:α}{cs:List VL}(ho:o.op= .mapUpdate t x y z)(hx:opv env x=some (.map (some b)))(hy:opv env y=some (K.val j))(hz:opv env z=some (.agg cs.toArray))
  (hi:os[i]? =some (bW P k K d true b l)) (hK:E4 P k K) (ht:P.underlying t=some (.map k e)) {l':List (κ×α)} (hu:mpt K l j v=some l') (hR:∀ ok,(∀ r:Rp,r ∈ rs->r.p w ok)->d.R w ok v cs)
  (Kn:∀ w',Sep w' (os.set i (bW P k K d true b l')) rs->wpList P ops Q rest a w'):wpList P ops Q (o::rest) a w:=by
 obtain ⟨hok,hn,rfl⟩:=Xw hu;obtain ⟨w',hr,H'⟩:=H.mapPutL (t:=t) hi hK.1 ht hok (hK.2 j hok) hR hn;refine Bo E hw hd (w':=w') ?_ (Kn w' H');have hr':(Instr.mapUpdate t (.map (some b)) (K.val j) (.agg cs.toArray)).run P w= .ok () w':=hr;simp only [execOp,ho,E.eval hx,E.eval hy,E.eval hz];simp [Sem.run_bind,hr']
theorem Cx(E:Env n a env)(H:Sep w os rs){x:Operand}{i:Nat}{t' e':TI}(ho:o.op= .call { callee:=.builtin .len,args:=#[x],argTypes:=#[t'] })(hx:opv env x=some (.map (some b)))(hi:os[i]? =some (bW P k K d g b l))(ht:P.underlying t'=some (.map k e')):(execOp a.eval o).run P w= .ok (.value (.int .i64 (l.length:Int))) w:=by
 obtain ⟨_,_,h⟩:=H.ob i hi;obtain ⟨_,D,h2,h3,_⟩:=h;have:=h2.len ht o.type;rw [h3] at this;simp only [execOp,ho];simp [Sem.run_bind,resolve,invoke,builtin,E.eval hx,this]
end
/-- keys of two numbers. -/
def U6:Ky (Int×Int) where
 lit p:=.string (keyBytes [.int .i64 p.1,.int .i64 p.2])
 val p:=.agg #[.int .i64 p.1,.int .i64 p.2]
 ok p:=(Lit.int .i64 p.1).wf && (Lit.int .i64 p.2).wf
 inj:=by
  rintro ⟨a,b⟩ ⟨a',b'⟩ h h' e;simp only [Bool.and_eq_true] at h h';simp only [Lit.string.injEq] at e;have:=_root_.Go.keyBytes_inj (l:=[.int .i64 a,.int .i64 b]) (l':=[.int .i64 a',.int .i64 b']) ⟨rfl,rfl,trivial⟩ (by
   intro x hx;simp only [List.mem_cons,List.not_mem_nil,or_false] at hx;rcases hx with rfl | rfl
   ·exact h.1
   ·exact h.2) (by
   intro x hx;simp only [List.mem_cons,List.not_mem_nil,or_false] at hx;rcases hx with rfl | rfl
   ·exact h'.1
   exact h'.2) e
  simp only [List.cons.injEq,Lit.int.injEq,true_and,and_true] at this;rw [this.1,this.2]
 key _:=by first | exact trivial | exact .string _ | simp [WideAt.IsKeyLit]
end Go.Cb
