/- The base: frames, worlds as owned objects and reads, steps, operations. -/
import Derived.Test.YtpbgbliikifjjaaGreatDoorAse1
import Derived.DeepKeys4
set_option linter.unusedVariables false
set_option linter.unusedSimpArgs false
namespace Go.Cb
open Go.RowKit
open Go.ChangeMaps (setBlock heap_setBlock_same heap_setBlock_other)

theorem Ll{κ α:Type} [DecidableEq κ] (l:List (κ×α)) (j:κ) (x y:α):lO (lO l j x) j y=lO l j y:=by
  induction l with
  | nil=>simp [lO]
  | cons p l ih=>
    obtain ⟨k,z⟩:=p
    by_cases h:k=j
    · simp [lO,h]
    · simp [lO,h,ih]
theorem Sep.inst2 {w:World} {os:List Ob} {rs:List Rp} {i:Nat} {o1 o2:Ob} (H:Sep w (os.set i o1) rs) (hi:i < os.length) (h:∀ own ok:Nat→Prop,o1.p w own ok→o2.p w own ok):Sep w (os.set i o2) rs:=by
  obtain ⟨col,h1,h2⟩:=H
  refine ⟨col,fun q o hq=>?_,h2⟩
  by_cases e:i=q
  · subst e
    rw [List.getElem?_set_self hi] at hq
    cases hq
    exact h _ _ (h1 i o1 (List.getElem?_set_self hi))
  · rw [List.getElem?_set_ne e] at hq
    exact h1 q o (by rw [List.getElem?_set_ne e];exact hq)
/-- a map of which an entry, of key j, has stamp s. -/
def W6{κ α:Type} [DecidableEq κ] (P:Program) (kt:TypeId) (K:Ky κ) (d:Kd α) (b:Nat) (l:List (κ×α)) (j:κ) (z0:α) (s:Int):Ob where
  p w own ok:=(cB P kt K d false b (lO l j ((dY l j).getD z0))).p w own ok∧(K.ok j=true∧l.length+1 < maxLen)∧∃ es clock i,w.heap[b]? =some (.map es clock)∧es.findIdx? (fun e=>(e.born:Int) == s)=some i∧(es[i]?).map (·.key)=some (K.val j)
  keep:=by
    rintro w w' own own' ok ok' ⟨h1,hc,es,clock,i,h2,h3,h4⟩ k ho hk
    have hlt:b < w.heap.size:=(Array.getElem?_eq_some_iff.1 h2).1
    exact ⟨(cB P kt K d false b (lO l j ((dY l j).getD z0))).keep h1 k ho hk,hc,es,clock,i,(k.block b hlt (.inl h1.1)).trans h2,h3,h4⟩
section
variable {κ α:Type} [DecidableEq κ] {P:Program} {w:World} {os:List Ob} {rs:List Rp} {k e t:TypeId} {K:Ky κ} {b:Nat} {l:List (κ×α)} {f:α→Value} {hf:∀ x,(f x).oneCell'=true}
theorem ev{d:Kd α}{own ok:Nat→Prop}(h:(cB P k K d false b l).p w own ok):∃ es clock D n,w.heap[b]? =some (.map es clock)∧WideElems.Fit P k rdV es clock∧w.ownsMap P k rdV b n D:=by
  obtain ⟨_,D,h2,_⟩:=h
  obtain ⟨es,clock,hb,F,hs,hD⟩:=h2
  exact ⟨es,clock,D,_,hb,F,es,clock,hb,F,hs,hD⟩
theorem Ax{es:Array MapEntry}{clock:Nat}(hs:MapKept.Stamped es clock){i:Nat}{e0:MapEntry}(hi:es[i]? =some e0):es.findIdx? (fun e=>(e.born:Int) == (e0.born:Int))=some i:=by
  obtain ⟨hil,he⟩:=Array.getElem?_eq_some_iff.1 hi
  rw [Array.findIdx?_eq_some_iff_getElem]
  refine ⟨hil,by rw [he];simp,fun q hq=>?_⟩
  have hnd:=hs.2.1
  have hne:(es[q]'(by omega)).born ≠ e0.born:=fun h=>by
    have h1:(es.toList.map (·.born))[q]'(by simp;omega)=(es.toList.map (·.born))[i]'(by simpa using hil):=by simp [h,he]
    have:=(List.getElem_inj hnd).1 h1
    omega
  have:¬ ((es[q]'(by omega)).born:Int)=(e0.born:Int):=fun h=>hne (Int.ofNat.inj h)
  simpa using this
theorem Sep.mapEnt (H:Sep w os rs) {i:Nat} (hi:os[i]? =some (cB P k K (Kd.scalar f hf) false b l)) (hK:rK P k K) (ht:P.underlying t=some (.map k e)) {z0:α} (hz:(P.info? e).bind (·.zero)=some (f z0)) {j:κ} (hc:K.ok j=true∧l.length+1 < maxLen) :
    ∃ w' s,(Instr.mapEntry t (.map (some b)) (K.val j)).run P w= .ok (.tuple #[f ((dY l j).getD z0),.int .i64 s]) w'∧Sep w' (os.set i (W6 P k K (Kd.scalar f hf) b l j z0 s)) rs:=by
  obtain ⟨hok,hn1⟩:=hc
  have hn:l.length < maxLen:=by omega
  have hj:=hK.2 j hok
  have hilt:=(List.getElem?_eq_some_iff.1 hi).1
  -- the value
  have hval:∃ own ok,(cB P k K (Kd.scalar f hf) false b l).p w own ok:=H.ob i hi
  obtain ⟨own,ok,hp⟩:=hval
  obtain ⟨cs,hlook,hcs⟩:=yH (e:=e) (t:=t) (z0:=z0) (zc:=[f z0]) false hp hK.1 ht hz rfl hok hj
  have hcs':cs= [f ((dY l j).getD z0)]:=hcs
  subst hcs'
  have hlook':(Instr.lookup t (.map (some b)) (K.val j) false).run P w= .ok (f ((dY l j).getD z0)) w:=hlook
  obtain ⟨es,clock,D,nn,hb,F,_⟩:=ev hp
  obtain ⟨w',hr,H'⟩:=H.mapPutL (t:=t) (x:=(dY l j).getD z0) (cs:=[f ((dY l j).getD z0)]) hi hK.1 ht hok hj (fun _ _=>rfl) hn
  have hr':(Instr.mapUpdate t (.map (some b)) (K.val j) (f ((dY l j).getD z0))).run P w= .ok () w':=hr
  have hzr:=z7 hz w
  have hck:∀ em,(Instr.checkKey em 10000 k (K.val j)).run P w= .ok () w:=fun em=>hK.1.check w em hj
  rcases hK.1.find w hj es.toList (fun x hx=>by obtain ⟨y,hy⟩:=F.reads x hx;exact ⟨_,WideElems.rd_key hy⟩) with ⟨h1,h2⟩ | ⟨q,e0,h1,h2,h3⟩
  · have ew:w'=setBlock w b (.map (es.push ⟨K.val j,f ((dY l j).getD z0),clock⟩) (clock+1)):=by
      have:(Instr.mapUpdate t (.map (some b)) (K.val j) (f ((dY l j).getD z0))).run P w= .ok () (setBlock w b (.map (es.push ⟨K.val j,f ((dY l j).getD z0),clock⟩) (clock+1))):=by
        simp [Instr.mapUpdate,run_underlying ht,MapKept.run_getObj_map hb,hck,h1,MapKept.run_setObj_map _ hb,Result.andThen,setBlock]
      rw [hr'] at this
      cases this;rfl
    have hv:f ((dY l j).getD z0)=f z0:=by
      have hl2:(Instr.lookup t (.map (some b)) (K.val j) false).run P w= .ok (f z0) w:=by
        simp [Instr.lookup,run_underlying ht,MapKept.run_getObj_map hb,hck,h1,hzr,Result.andThen]
      rw [hlook'] at hl2
      injection hl2
    refine ⟨w',(clock:Int),?_,?_⟩
    · rw [ew,hv]
      simp [Instr.mapEntry,run_underlying ht,MapKept.run_getObj_map hb,hck,h1,hzr,MapKept.run_setObj_map _ hb,Result.andThen,setBlock,goInt]
    · refine Sep.inst2 H' hilt fun own ok h=>⟨h,⟨hok,hn1⟩,es.push ⟨K.val j,f ((dY l j).getD z0),clock⟩,clock+1,es.size,?_,?_,by simp⟩
      · rw [ew];exact heap_setBlock_same hb _
      · exact Ax (MapKept.stamped_push F.stamped h2) (e0:=⟨K.val j,f ((dY l j).getD z0),clock⟩) (by simp)
  · have hq:es[q]? =some e0:=by simpa using h2
    have hmod:es.modify q (fun e'=>{ e' with key:=K.val j })=es:=by
      apply Array.ext_getElem?
      intro z
      rw [Array.getElem?_modify]
      split
      · rename_i hz;subst hz;rw [hq];simp only [Option.map_some];rw [← h3]
      · rfl
    have hmod2:es.modify q (fun e'=>{ e' with key:=K.val j,val:=f ((dY l j).getD z0) })=es.modify q (fun e'=>{ e' with val:=f ((dY l j).getD z0) }):=by
      apply Array.ext_getElem?
      intro z
      rw [Array.getElem?_modify,Array.getElem?_modify]
      split
      · rename_i hz;subst hz;rw [hq];simp only [Option.map_some];rw [← h3]
      · rfl
    have hv:e0.val=f ((dY l j).getD z0):=by
      have hl2:(Instr.lookup t (.map (some b)) (K.val j) false).run P w= .ok e0.val w:=by
        simp [Instr.lookup,run_underlying ht,MapKept.run_getObj_map hb,hck,h1,Result.andThen]
      rw [hlook'] at hl2
      injection hl2 with h _
      exact h.symm
    have hmod3:es.modify q (fun e'=>{ e' with val:=f ((dY l j).getD z0) })=es:=by
      apply Array.ext_getElem?
      intro z
      rw [Array.getElem?_modify]
      split
      · rename_i hz;subst hz;rw [hq];simp only [Option.map_some];rw [← hv]
      · rfl
    have ew:w'=setBlock w b (.map es clock):=by
      have:(Instr.mapUpdate t (.map (some b)) (K.val j) (f ((dY l j).getD z0))).run P w= .ok () (setBlock w b (.map es clock)):=by
        simp only [Instr.mapUpdate]
        simp [run_underlying ht,MapKept.run_getObj_map hb,hck,h1,hq,h3,hK.1.stays w hj,MapKept.run_setObj_map _ hb,Result.andThen,setBlock,hmod2,hmod3]
      rw [hr'] at this
      cases this;rfl
    refine ⟨w',(e0.born:Int),?_,?_⟩
    · rw [ew,← hv]
      simp only [Instr.mapEntry]
      simp [run_underlying ht,MapKept.run_getObj_map hb,hck,h1,hq,h3,hK.1.stays w hj,MapKept.run_setObj_map _ hb,Result.andThen,setBlock,goInt,hmod]
    · refine Sep.inst2 H' hilt fun own ok h=>⟨h,⟨hok,hn1⟩,es,clock,q,?_,Ax F.stamped hq,by rw [hq];simp [h3]⟩
      rw [ew];exact heap_setBlock_same hb _
theorem Sep.entSt (H:Sep w os rs) {i:Nat} {j:κ} {z0:α} {s:Int} (hi:os[i]? =some (W6 P k K (Kd.scalar f hf) b l j z0 s)) (hK:rK P k K) (ht:P.underlying t=some (.map k e)) {v:α} :
    ∃ w',(Instr.entryStore t (.map (some b)) (.int .i64 s) (f v)).run P w= .ok () w'∧Sep w' (os.set i (cB P k K (Kd.scalar f hf) false b (lO l j v))) rs:=by
  have hil:=(List.getElem?_eq_some_iff.1 hi).1
  have H1:Sep w (os.set i (cB P k K (Kd.scalar f hf) false b (lO l j ((dY l j).getD z0)))) rs:=by
    have:Sep w (os.set i (W6 P k K (Kd.scalar f hf) b l j z0 s)) rs:=by
      have e2:os.set i (W6 P k K (Kd.scalar f hf) b l j z0 s)=os:=by
        apply List.ext_getElem?
        intro q
        by_cases e:i=q
        · subst e;rw [List.getElem?_set_self hil,hi]
        · rw [List.getElem?_set_ne e]
      rw [e2];exact H
    exact this.inst2 hil fun own ok h=>h.1
  obtain ⟨own,ok,hp,⟨hok,hn1⟩,es,clock,q,hb,hfi,hkey⟩:=H.ob i hi
  have hj:=hK.2 j hok
  have hp2:(cB P k K (Kd.scalar f hf) false b (lO l j ((dY l j).getD z0))).p w own ok:=hp
  obtain ⟨es',clock',D,nn,hb',F,hown⟩:=ev hp2
  obtain ⟨rfl,rfl⟩:es'=es∧clock'=clock:=by rw [hb] at hb';cases hb';exact ⟨rfl,rfl⟩
  have hck:∀ em,(Instr.checkKey em 10000 k (K.val j)).run P w= .ok () w:=fun em=>hK.1.check w em hj
  cases hq:es'[q]? with
  | none=>rw [hq] at hkey;cases hkey
  | some e0=>
    rw [hq] at hkey
    simp only [Option.map_some,Option.some.injEq] at hkey
    rcases hK.1.find w hj es'.toList (fun x hx=>by obtain ⟨y,hy⟩:=F.reads x hx;exact ⟨_,WideElems.rd_key hy⟩) with ⟨h1,h2⟩ | ⟨q',e1,h1,h2,h3⟩
    · exact absurd hkey (h2 e0 (by rw [Array.mem_toList_iff];exact Array.mem_of_getElem? hq))
    · have hq':es'[q']? =some e1:=by simpa using h2
      have hqq:q'=q:=by
        have hnd:=F.stamped.2.2
        obtain ⟨a1,a2⟩:=Array.getElem?_eq_some_iff.1 hq
        obtain ⟨b1,b2⟩:=Array.getElem?_eq_some_iff.1 hq'
        refine (List.getElem_inj (xs:=es'.toList.map MapEntry.key) (i:=q') (j:=q) (h₀:=by simpa using b1) (h₁:=by simpa using a1) hnd).1 ?_
        simp [a2,b2,hkey,h3]
      subst hqq
      rw [hq] at hq'
      cases hq'
      have hmod:es'.modify q' (fun e'=>{ e' with key:=K.val j,val:=f v })=es'.modify q' (fun e'=>{ e' with val:=f v }):=by
        apply Array.ext_getElem?
        intro z
        rw [Array.getElem?_modify,Array.getElem?_modify]
        split
        · rename_i hz;subst hz;rw [hq];simp only [Option.map_some];rw [← h3]
        · rfl
      have hlt:(lO l j ((dY l j).getD z0)).length < maxLen:=by rw [Fg];split <;> omega
      obtain ⟨w',hr,H2⟩:=H1.mapPutL (t:=t) (x:=v) (cs:=[f v]) (List.getElem?_set_self hil) hK.1 ht hok hj (fun _ _=>rfl) hlt
      have hr:(Instr.mapUpdate t (.map (some b)) (K.val j) (f v)).run P w= .ok () w':=hr
      have hr2:(Instr.mapUpdate t (.map (some b)) (K.val j) (f v)).run P w= .ok () (setBlock w b (.map (es'.modify q' (fun e'=>{ e' with val:=f v })) clock')):=by
        simp only [Instr.mapUpdate]
        simp [run_underlying ht,MapKept.run_getObj_map hb,hck,h1,hq,h3,hK.1.stays w hj,MapKept.run_setObj_map _ hb,Result.andThen,setBlock,hmod]
      rw [hr] at hr2
      cases hr2
      rw [List.set_set,Ll] at H2
      refine ⟨_,?_,H2⟩
      simp only [Instr.entryStore]
      simp [MapKept.run_getObj_map hb,hfi,asInt,asIntOf,MapKept.run_setObj_map _ hb,Result.andThen,setBlock]
end
section
variable {κ α:Type} [DecidableEq κ] {P:Program} {ops:Array Oper} {Q:Exit→Act→World→Prop} {rest:List Oper} {o:Oper} {w:World} {a:Act} {n:Nat} {env:List (Nat×Value)} {os:List Ob} {rs:List Rp} {k e t:TypeId} {K:Ky κ} {b:Nat} {l:List (κ×α)} {f:α→Value} {hf:∀ x,(f x).oneCell'=true}
theorem U7(E:Env n a env)(H:Sep w os rs)(hw:Region.wanted o (yielded ops a.tmps)=true){dd:Nat}(hd:o.dst=some dd)(hdn:Nat.ble (dd+1) n=true){x y:Operand}{i:Nat}{j:κ}(ho:o.op= .mapEntry t x y)(hx:opv env x=some (.map (some b)))(hy:opv env y=some (K.val j))(hi:os[i]? =some (cB P k K (Kd.scalar f hf) false b l))
    (hK:rK P k K) (ht:P.underlying t=some (.map k e)) {z0:α} (hz:(P.info? e).bind (·.zero)=some (f z0)) (hc:K.ok j=true∧l.length+1 < maxLen)
    (Kn:∀ s w' a',Sep w' (os.set i (W6 P k K (Kd.scalar f hf) b l j z0 s)) rs→Env n a' ((dd,.tuple #[f ((dY l j).getD z0),.int .i64 s])::env)→wpList P ops Q rest a' w'):wpList P ops Q (o::rest) a w:=by
  obtain ⟨w',s,hr,H'⟩:=H.mapEnt hi hK ht hz hc
  refine aQ E hw hd hdn (v:=_) (w':=w') ?_ fun a' E'=>Kn s w' a' H' E'
  simp only [execOp,ho,E.eval hx,E.eval hy]
  simp [Sem.run_bind,hr,Result.andThen]
theorem L5(E:Env n a env)(H:Sep w os rs)(hw:Region.wanted o (yielded ops a.tmps)=true)(hd:o.dst=none){x y z:Operand}{i:Nat}{j:κ}{z0 v:α}{s:Int}(ho:o.op= .entryStore t x y z)(hx:opv env x=some (.map (some b)))(hy:opv env y=some (.int .i64 s))(hz:opv env z=some (f v))
    (hi:os[i]? =some (W6 P k K (Kd.scalar f hf) b l j z0 s)) (hK:rK P k K) (ht:P.underlying t=some (.map k e))
    (Kn:∀ w',Sep w' (os.set i (cB P k K (Kd.scalar f hf) false b (lO l j v))) rs→wpList P ops Q rest a w'):wpList P ops Q (o::rest) a w:=by
  obtain ⟨w',hr,H'⟩:=H.entSt (v:=v) hi hK ht
  refine zP E hw hd (w':=w') ?_ (Kn w' H')
  simp only [execOp,ho,E.eval hx,E.eval hy,E.eval hz]
  simp [Sem.run_bind,hr]
/-- what is looked up while an entry of that key is made, is what it was. -/
theorem Lm(E:Env n a env)(H:Sep w os rs){x y:Operand}{i:Nat}{j:κ}{z0:α}{s:Int}(ho:o.op= .lookup t x y false)(hx:opv env x=some (.map (some b)))(hy:opv env y=some (K.val j))(hi:os[i]? =some (W6 P k K (Kd.scalar f hf) b l j z0 s))
    (hK:rK P k K) (ht:P.underlying t=some (.map k e)) (hz:(P.info? e).bind (·.zero)=some (f z0)) {u:Option α} (hu:mlk K l j=some u):(execOp a.eval o).run P w= .ok (.value (f (u.getD z0))) w:=by
  obtain ⟨hok,rfl⟩:=z8 hu
  obtain ⟨own,ok,h,_⟩:=H.ob i hi
  obtain ⟨cs,hr,hcs⟩:=yH (zc:=[f z0]) false h hK.1 ht hz rfl hok (hK.2 j hok)
  have hcs':cs= [f ((dY (lO l j ((dY l j).getD z0)) j).getD z0)]:=hcs
  subst hcs'
  rw [s4] at hr
  simp only [execOp,ho,E.eval hx,E.eval hy]
  simp [Sem.run_bind,hr,Result.andThen,vOf]
end
end Go.Cb

namespace Go.Cb
open Go.RowKit
/-- j hangs on i. -/
inductive Anc (ops:Array Oper):Nat→Nat→Prop
  | one {j i:Nat} {y:Oper} {e:Edge} (h:ops[j]? =some y) (he:e ∈ y.after) (hb:Region.binds .any e=true) (hi:e.on=i):Anc ops j i
  | more {j k i:Nat} {y:Oper} {e:Edge} (h:ops[j]? =some y) (he:e ∈ y.after) (hb:Region.binds .any e=true) (hk:e.on=k) (r:Anc ops k i):Anc ops j i
/-- what is listed has all listed that it hangs on. -/
def Cl(ops:Array Oper)(listed:Array Bool):Prop:=∀ j y,listed.getD j false=true→ops[j]? =some y→∀ e ∈ y.after,Region.binds .any e=true→listed.getD e.on false=true
theorem Cl.anc {ops:Array Oper} {listed:Array Bool} (C:Cl ops listed) {j i:Nat} (h:Anc ops j i):listed.getD j false=true→listed.getD i false=true:=by
  induction h with
  | one h he hb hi=>intro hl;subst hi;exact C _ _ hl h _ he hb
  | more h he hb hk r ih=>intro hl;subst hk;exact ih (C _ _ hl h _ he hb)
theorem Cl.list {ops:Array Oper} {listed:Array Bool} (C:Cl ops listed) {j:Nat} (hj:j ∈ Region.ready .any ops listed):Cl ops (listed.setIfInBounds j true):=by
  intro k y hk hy e he hb
  obtain ⟨_,z,hz,hall⟩:=mem_ready.1 hj
  by_cases hjk:j=k
  · subst hjk
    rw [hz] at hy
    cases hy
    exact getD_set_true (hall e he hb)
  · rw [getD_set_ne false hjk] at hk
    exact getD_set_true (C k y hk hy e he hb)
section
variable {P:Program} {ops:Array Oper} {Q:Exit→Act→World→Prop} {I:World→Prop} {T:Nat→Bool}
theorem Di{i:Nat}{x:Oper}{v:Value}(hi:ops[i]? =some x)(hsel:∀ (j:Nat) (o:Oper) cs b,ops[j]? =some o→o.op ≠ .select cs b)(hQ:∀ c a w,Q (.panic c) a w→False)(hT:∀ j,j < ops.size→T j=true→Anc ops j i)(hTi:T i=false) :
    ∀ (m:Nat) (listed:Array Bool) (a:Act) (w:World),Cl ops listed→
      (∀ j y,ops[j]? =some y→j ≠ i→listed.getD j true=false→(∀ e ∈ y.after,Region.binds .any e=true→e.on ≠ i)→x.apart ops y=true)→
      i ∈ Region.ready .any ops listed→I w→Yl P I ops x v a→yM P I T ops Q m (listed.setIfInBounds i true) (a.put x.dst v) w→yM P I T ops Q (m+1) listed a w:=by
  intro m
  induction m with
  | zero=>
    intro listed a w C _ hr hI hy H
    refine ⟨fun h=>(by rw [h] at hr;cases hr),fun j hj=>?_⟩
    by_cases hji:j=i
    · subst hji;exact hy.wpOp hi hI ⟨.inr hI,H⟩
    · have:=ready_mono hj hji
      rw [H.1] at this
      cases this
  | succ m ih=>
    intro listed a w C hfree hr hI hy H
    refine ⟨fun h=>(by rw [h] at hr;cases hr),fun j hj=>?_⟩
    by_cases hji:j=i
    · subst hji;exact hy.wpOp hi hI ⟨.inr hI,H⟩
    · obtain ⟨hjun,y,hoj,hall⟩:=mem_ready.1 hj
      have hun:¬ listed.getD i false=true:=fun h1=>by
        have h0:=(mem_ready.1 hr).1
        rcases Nat.lt_or_ge i listed.size with h' | h'
        · simp [h'] at h0 h1;rw [h0] at h1;cases h1
        · simp [Array.getElem?_eq_none h'] at h1
      have hnot:∀ e ∈ y.after,Region.binds .any e=true→e.on ≠ i:=fun e he hb heq=>hun (by rw [← heq];exact hall e he hb)
      have hTj:T j=false:=by
        cases hq:T j with
        | false=>rfl
        | true=>
          exfalso
          refine hun ?_
          cases hT j (Array.getElem?_eq_some_iff.1 hoj).1 hq with
          | one h he hb hi=>rw [hoj] at h;cases h;rw [← hi];exact hall _ he hb
          | more h he hb hk r=>rw [hoj] at h;cases h;refine C.anc r ?_;rw [← hk];exact hall _ he hb
      have h2:=Cy hoj (hfree j y hoj hji hjun hnot) (fun cs b=>hsel i x cs b hi) (fun cs b=>hsel j y cs b hoj) hQ hy (H.2 j (ready_mono hj hji))
      have hfree':∀ k z,ops[k]? =some z→k ≠ i→(listed.setIfInBounds j true).getD k true=false→(∀ e ∈ z.after,Region.binds .any e=true→e.on ≠ i)→x.apart ops z=true:=fun k z hk hki hun hno=>by
        refine hfree k z hk hki ?_ hno
        by_cases hjk:j=k
        · subst hjk;exact hjun
        · rw [getD_set_ne true hjk] at hun;exact hun
      refine wpOp_mono (fun a' w' h3=>⟨h3.1,ih (listed.setIfInBounds j true) a' w' (C.list hj) hfree' (ready_mono hr (Ne.symm hji)) (h3.1.resolve_left (by rw [hTj];exact Bool.false_ne_true)) h3.2.1 ?_⟩) h2
      rw [Array.setIfInBounds_comm _ _ hji]
      exact h3.2.2
/-- the ancestors, reckoned. -/
def Hv(ops:Array Oper)(i:Nat):Nat→Nat→Bool
  | 0,_=>false
  | n+1,j=>match ops[j]? with
    | some y=>y.after.any fun e=>Region.binds .any e && (e.on == i || Hv ops i n e.on)
    | none=>false
theorem Fj{ops:Array Oper}{i:Nat}:∀ (n j:Nat),Hv ops i n j=true→Anc ops j i
  | n+1,j,h=>by
    unfold Hv at h
    split at h
    · rename_i y hy
      obtain ⟨e,he,hb⟩:=Array.any_eq_true'.1 h
      simp only [Bool.and_eq_true,Bool.or_eq_true,beq_iff_eq] at hb
      rcases hb.2 with h1 | h1
      · exact .one hy he hb.1 h1
      · exact .more hy he hb.1 rfl (Fj n _ h1)
    · cases h
def Hf(ops:Array Oper)(ord:List (Nat×Nat)):Bool:=
  ord.all fun p=>p.2 != 0 || (!G4 ord p.1 && (List.range ops.size).all fun j=>!G4 ord j || Hv ops p.1 ops.size j)
def R8(ops:Array Oper)(ord:List (Nat×Nat)):Bool:=
  Region.noSelect ops && uG ops ord (Array.replicate ops.size false) && Nat.beq ord.length ops.size && pJ ord && Hf ops ord && ord.all fun p=>Nat.ble p.2 2
theorem D4(hs:Region.noSelect ops=true)(hQ:∀ c a w,Q (.panic c) a w→False):∀ (l:List (Nat×Nat)) (listed:Array Bool) (a:Act) (w:World),Cl ops listed→
    (∀ i k,(i,k) ∈ l→(k=0→T i=false∧∀ j,j < ops.size→T j=true→Anc ops j i)∧(k ≥ 2→T i=true))→((∃ i,(i,0) ∈ l)→I w)→pJ l=true→(∀ i k,(i,k) ∈ l→k ≤ 2)→
    uG ops l listed=true→kK P I ops Q l a w→yM P I T ops Q l.length listed a w
  | [],listed,a,w,_,_,_,_,_,ho,h=>⟨by simpa [uG] using ho,h⟩
  | (i,0)::l,listed,a,w,C,hT,hI,hl,hk,ho,h=>by
    simp only [uG,Bool.and_eq_true] at ho
    obtain ⟨⟨hr,hf⟩,ho⟩:=ho
    obtain ⟨o,hi,v,hy,h⟩:=h
    simp only [pJ,Bool.and_eq_true] at hl
    have hIw:=hI ⟨i,.head _⟩
    have hr':i ∈ Region.ready .any ops listed:=by simpa using hr
    obtain ⟨hTi,hTe⟩:=(hT i 0 (.head _)).1 rfl
    exact Di hi (Region.noSelect_spec hs) hQ hTe hTi l.length listed a w C (fun j y hj hne hun hno=>Region.free_spec hi hf j y hj hne hun hno) hr' hIw hy
      (D4 hs hQ l _ _ w (C.list hr') (fun i k hm=>hT i k (.tail _ hm)) (fun _=>hIw) hl.1 (fun i k hm=>hk i k (.tail _ hm)) ho h)
  | (i,1)::l,listed,a,w,C,hT,hI,hl,hk,ho,h=>by
    simp only [uG,Bool.and_eq_true,beq_iff_eq] at ho
    obtain ⟨hr,ho⟩:=ho
    obtain ⟨o,hi,h⟩:=h
    simp only [pJ,Bool.and_eq_true] at hl
    refine ⟨fun h0=>(by rw [hr] at h0;cases h0),fun j hj=>?_⟩
    have hj':=hj
    rw [hr] at hj
    simp at hj
    subst hj
    exact wpOp_mono (fun a' w' h'=>⟨.inr h'.1,D4 hs hQ l _ _ _ (C.list hj') (fun i k hm=>hT i k (.tail _ hm)) (fun _=>h'.1) hl.1 (fun i k hm=>hk i k (.tail _ hm)) ho h'.2⟩) (nN hi h)
  | (i,k+2)::l,listed,a,w,C,hT,hI,hl,hk,ho,h=>by
    simp only [uG,Bool.and_eq_true,beq_iff_eq] at ho
    obtain ⟨hr,ho⟩:=ho
    obtain ⟨o,hi,h⟩:=h
    simp only [pJ,Bool.and_eq_true] at hl
    have hk0:k=0:=by have:=hk i (k+2) (.head _);omega
    subst hk0
    have hno:¬ ∃ i,(i,0) ∈ l:=by
      rintro ⟨q,hq⟩
      have:=hl.2
      simp at this
      have:=this q 0 hq
      omega
    refine ⟨fun h0=>(by rw [hr] at h0;cases h0),fun j hj=>?_⟩
    have hj':=hj
    rw [hr] at hj
    simp at hj
    subst hj
    exact wpOp_mono (fun a' w' h'=>⟨.inl ((hT _ _ (.head _)).2 (by omega)),D4 hs hQ l _ _ _ (C.list hj') (fun i k hm=>hT i k (.tail _ hm)) (fun hx=>(hno hx).elim) hl.1 (fun i k hm=>hk i k (.tail _ hm)) ho h'⟩) (nN hi h)
theorem Ln{id:Nat}{a:Act}{w:World}(I:World→Prop)(ord:List (Nat×Nat))(hm:P.follows .mixedOrders=true)(ho:R8 ops ord=true)
    (hQ:∀ c a w,Q (.panic c) a w→False) (hI:I { w with drawn:=w.drawn+1 }) (h:kK P I ops Q ord a { w with drawn:=w.drawn+1 }):(Code.region id ops true).wp P Q a w:=by
  simp only [R8,Bool.and_eq_true] at ho
  obtain ⟨⟨⟨⟨⟨h1,h2⟩,h3⟩,h4⟩,h5⟩,h6⟩:=ho
  have hlen:ord.length=ops.size:=Nat.eq_of_beq_eq_true h3
  have C0:Cl ops (Array.replicate ops.size false):=fun j y hj=>by
    rw [Array.getD_eq_getD_getElem?,Array.getElem?_replicate] at hj
    split at hj <;> cases hj
  refine wp_region_any hm (hlen ▸ x8 (T:=G4 ord) (I:=I) _ _ _ _ (D4 h1 hQ ord _ a _ (hlen.symm ▸ C0) (fun i k hmem=>?_) (fun _=>hI) h4 (fun i k hmem=>?_) (hlen.symm ▸ h2) h))
  · refine ⟨fun hk=>?_,fun hk=>?_⟩
    · subst hk
      simp only [Hf,List.all_eq_true] at h5
      have:=h5 _ hmem
      simp only [bne_self_eq_false,Bool.false_or,Bool.and_eq_true,Bool.not_eq_true',List.all_eq_true,List.mem_range] at this
      refine ⟨this.1,fun j hj hTj=>?_⟩
      have hq:=this.2 j hj
      rw [hTj] at hq
      simp only [Bool.not_true,Bool.false_or] at hq
      exact Fj _ _ hq
    · have h7:k ≤ 2:=by
        have:=List.all_eq_true.1 h6 _ hmem
        exact Nat.le_of_ble_eq_true this
      have hk2:k=2:=by omega
      subst hk2
      exact List.any_eq_true.2 ⟨_,hmem,by simp⟩
  · have:=List.all_eq_true.1 h6 _ hmem
    exact Nat.le_of_ble_eq_true this
variable {w:World} {a:Act} {os:List Ob} {rs:List Rp}
theorem Qb{id:Nat}(hm:P.follows .mixedOrders=true)(ord:List (Nat×Nat))(is js:List Nat)(H:Sep w os rs)(ho:R8 ops ord=true)(hQ:∀ c a w,Q (.panic c) a w→False)
    (k:∀ w W0,dP (pkl os is) (pkl rs js) W0→Sep w os rs→kK P (dP (pkl os is) (pkl rs js)) ops Q ord a w):(Code.region id ops true).wp P Q a w:=
  have hI:dP (pkl os is) (pkl rs js) { w with drawn:=w.drawn+1 }:=⟨_,_,H.kept (Kp.drawn _ w _),y7 is,y7 js⟩
  Ln _ ord hm ho hQ hI (k _ _ hI (H.kept (Kp.drawn _ w _)))
end
end Go.Cb

namespace Go.Cb
open Go.RowKit
/-- a lookup's datum (or the zero), and whether it is there. -/
def A2{κ α:Type} [DecidableEq κ] (K:Ky κ) (l:List (κ×α)) (j:κ) (z:α):Option (α×Bool):=(mlk K l j).map fun u=>(u.getD z,u.isSome)
def Ay{κ α:Type} [DecidableEq κ] (K:Ky κ) (l:List (κ×α)) (j:κ) (z:α):Option α:=(mlk K l j).map fun u=>u.getD z
section
variable {κ α:Type} [DecidableEq κ] {P:Program} {ops:Array Oper} {Q:Exit→Act→World→Prop} {rest:List Oper} {o:Oper} {w:World} {a:Act} {n:Nat} {env:List (Nat×Value)} {os:List Ob} {rs:List Rp} {k e t:TypeId} {K:Ky κ} {d:Kd α} {b:Nat} {l:List (κ×α)}
theorem lR(E:Env n a env)(H:Sep w os rs)(hw:Region.wanted o (yielded ops a.tmps)=true){dd:Nat}(hd:o.dst=some dd)(hdn:Nat.ble (dd+1) n=true){x y:Operand}{i:Nat}{j:κ}(ho:o.op= .lookup t x y true)(hx:opv env x=some (.map (some b)))(hy:opv env y=some (K.val j))(hi:os[i]? =some (cB P k K d true b l))
    (hK:rK P k K) (ht:P.underlying t=some (.map k e)) {z0:α} {zc:List Value} (hz:(P.info? e).bind (·.zero)=some (.agg zc.toArray)) (hR:∀ (w:World) ok,d.R w ok z0 zc) {u:α×Bool} (hu:A2 K l j z0=some u)
    (Kn:∀ cs a',Sep w os (rCs d cs u.1::rs)→Env n a' ((dd,.tuple #[.agg cs.toArray,.bool u.2])::env)→wpList P ops Q rest a' w):wpList P ops Q (o::rest) a w:=by
  unfold A2 at hu
  obtain ⟨v,hv,rfl⟩:=Option.map_eq_some_iff.1 hu
  exact Lh E H hw hd hdn ho hx hy hi hK ht hz hR hv Kn
theorem Jz(E:Env n a env)(H:Sep w os rs)(hw:Region.wanted o (yielded ops a.tmps)=true){dd:Nat}(hd:o.dst=some dd)(hdn:Nat.ble (dd+1) n=true){x y:Operand}{i:Nat}{j:κ}(ho:o.op= .lookup t x y false)(hx:opv env x=some (.map (some b)))(hy:opv env y=some (K.val j))(hi:os[i]? =some (cB P k K d true b l))
    (hK:rK P k K) (ht:P.underlying t=some (.map k e)) {z0:α} {zc:List Value} (hz:(P.info? e).bind (·.zero)=some (.agg zc.toArray)) (hR:∀ (w:World) ok,d.R w ok z0 zc) {u:α} (hu:Ay K l j z0=some u)
    (Kn:∀ cs a',Sep w os (rCs d cs u::rs)→Env n a' ((dd,.agg cs.toArray)::env)→wpList P ops Q rest a' w):wpList P ops Q (o::rest) a w:=by
  unfold Ay at hu
  obtain ⟨v,hv,rfl⟩:=Option.map_eq_some_iff.1 hu
  exact Jv E H hw hd hdn ho hx hy hi hK ht hz hR hv Kn
end
section
variable {w:World} {rs:List Rp}
/-- some objects less, one behind the other. -/
def drO(os:List Ob):List Nat→List Ob
  | []=>os
  | i::is=>drO (os.eraseIdx i) is
theorem Sep.drs:∀ (is:List Nat) {os:List Ob},Sep w os rs→Sep w (drO os is) rs
  | [],_,H=>H
  | i::is,_,H=>Sep.drs is (H.drop i)
/-- some objects to the front, one behind the other. -/
def frO(os:List Ob):List Nat→Option (List Ob)
  | []=>some os
  | i::is=>match os[i]? with
    | none=>none
    | some o=>frO (o::os.eraseIdx i) is
theorem Sep.frs:∀ (is:List Nat) {os os':List Ob},Sep w os rs→frO os is=some os'→Sep w os' rs
  | [],_,_,H,h=>by cases h;exact H
  | i::is,os,_,H,h=>by
    unfold frO at h
    split at h
    · cases h
    · rename_i o ho
      exact Sep.frs is (H.front i ho) h
end
end Go.Cb

namespace Go.Cb
open Go.RowKit
theorem Env.to {n:Nat} {a:Act} {env env':List (Nat×Value)} (E:Env n a env) (h:Hq env (env'.map Prod.fst)=some env'):Env n a env':=E.sel _ h
abbrev CF (P:Program) (f:FuncId):Prop:=∀ (w:World) (args:Array Value),(callFunc f args).run P w= .ok (.enter f args) w
theorem cfo{P:Program}{f:FuncId}{fn:Func}(h:P.funcs[f]? =some fn)(hb:(fn.body.isNone || fn.name == "runtime.NumGoroutine")=false):CF P f:=fun _ args=>by
  rw [Bool.or_eq_false_iff] at hb;exact yL h hb.1 hb.2 args
section
variable {P:Program} {ops:Array Oper} {Q:Exit→Act→World→Prop} {rest:List Oper} {o:Oper} {w:World} {a:Act} {n:Nat} {env:List (Nat×Value)}
/-- a call whose result is told. -/
theorem xk(E:Env n a env)(hg:o.guard=none){d:Nat}(hd:o.dst=some d)(hdn:Nat.ble (d+1) n=true){f:FuncId}{xs:List Operand}{ts:Array TypeId}{vs:List Value}{u:Value}{S:World→Prop}(ho:o.op= .call { callee:=.value (.func f),args:=xs.toArray,argTypes:=ts })(hx:y9 env xs=some vs)
    (hcf:CF P f) (hc:Calls P f vs.toArray w (Ret fun v w'=>u=v∧S w')) (k:∀ w',S w'→∀ a',Env n a' ((d,u)::env)→wpList P ops Q rest a' w'):wpList P ops Q (o::rest) a w:=
  cG E hg hd hdn ho hx hcf hc (by rintro _ w' ⟨rfl,h⟩ a' E';exact k w' h a' E')
end
theorem ent{P:Program}{w:World}{f:FuncId}{fn:Func}{c:Code}{args:List Value}{R:Ending→World→Prop}{m:Nat}(hf:P.funcs[f]? =some fn)(hb:fn.body=some c)(hn:fn.ntmps=m)(hm:Nat.ble args.length m=true){env:List (Nat×Value)}(he:pG 0 args=env)
    (h:∀ a,Env m a env→c.wp P (bodyPost P fn R) a w):Calls P f args.toArray w R:=by
  subst he;exact enter hf hb hn hm h
section
variable {rs X:List Rp} {a b c d e f g h:Rp}
theorem Y0:∀ r:Rp,r ∈ X→r ∈ X:=fun _ h=>h
theorem Y1(H:∀ r:Rp,r ∈ rs→r ∈ X):∀ r:Rp,r ∈ rs→r ∈ a::X:=fun r h=>.tail _ (H r h)
theorem Y2(H:∀ r:Rp,r ∈ rs→r ∈ X):∀ r:Rp,r ∈ rs→r ∈ a::b::X:=Y1 (Y1 H)
theorem Y3(H:∀ r:Rp,r ∈ rs→r ∈ X):∀ r:Rp,r ∈ rs→r ∈ a::b::c::X:=Y1 (Y2 H)
theorem Y4(H:∀ r:Rp,r ∈ rs→r ∈ X):∀ r:Rp,r ∈ rs→r ∈ a::b::c::d::X:=Y1 (Y3 H)
theorem Y5(H:∀ r:Rp,r ∈ rs→r ∈ X):∀ r:Rp,r ∈ rs→r ∈ a::b::c::d::e::X:=Y1 (Y4 H)
theorem Y6(H:∀ r:Rp,r ∈ rs→r ∈ X):∀ r:Rp,r ∈ rs→r ∈ a::b::c::d::e::f::X:=Y1 (Y5 H)
theorem Y7(H:∀ r:Rp,r ∈ rs→r ∈ X):∀ r:Rp,r ∈ rs→r ∈ a::b::c::d::e::f::g::X:=Y1 (Y6 H)
theorem Y8(H:∀ r:Rp,r ∈ rs→r ∈ X):∀ r:Rp,r ∈ rs→r ∈ a::b::c::d::e::f::g::h::X:=Y1 (Y7 H)
end
section
variable {A0 B0 C0 D0 E0 F0 G0 H0 I0 J0 K0 L0 M0 N0 O0 P0 Q0 R0 S0 T0 U0 V0 W0 X0 Y0 Z0 A1 B1 C1 D1:Type} {a:A0} {b:B0} {c:C0} {d:D0} {e:E0} {f:F0} {g:G0} {h:H0} {i:I0} {j:J0} {k:K0} {l:L0} {m:M0} {n:N0} {o:O0} {p:P0} {q:Q0} {r:R0} {s:S0} {t:T0} {u:U0} {v:V0} {w:W0} {x:X0} {y:Y0} {z:Z0} {a1:A1} {b1:B1} {c1:C1} {d1:D1}
theorem X3{F:A0→B0→C0→Prop}(h:F a b c):∃ a b c,F a b c:=⟨_,_,_,h⟩
theorem X4{F:A0→B0→C0→D0→Prop}(h:F a b c d):∃ a b c d,F a b c d:=⟨_,_,_,_,h⟩
theorem X5{F:A0→B0→C0→D0→E0→Prop}(h:F a b c d e):∃ a b c d e,F a b c d e:=⟨_,_,_,_,_,h⟩
theorem X6{F:A0→B0→C0→D0→E0→F0→Prop}(h:F a b c d e f):∃ a b c d e f,F a b c d e f:=⟨_,_,_,_,_,_,h⟩
theorem X7{F:A0→B0→C0→D0→E0→F0→G0→Prop}(h:F a b c d e f g):∃ a b c d e f g,F a b c d e f g:=⟨_,_,_,_,_,_,_,h⟩
theorem X8{F:A0→B0→C0→D0→E0→F0→G0→H0→Prop}(h:F a b c d e f g h):∃ a b c d e f g h,F a b c d e f g h:=⟨_,_,_,_,_,_,_,_,h⟩
theorem X9{F:A0→B0→C0→D0→E0→F0→G0→H0→I0→Prop}(h:F a b c d e f g h i):∃ a b c d e f g h i,F a b c d e f g h i:=⟨_,_,_,_,_,_,_,_,_,h⟩
theorem X10{F:A0→B0→C0→D0→E0→F0→G0→H0→I0→J0→Prop}(h:F a b c d e f g h i j):∃ a b c d e f g h i j,F a b c d e f g h i j:=⟨_,_,_,_,_,_,_,_,_,_,h⟩
theorem X11{F:A0→B0→C0→D0→E0→F0→G0→H0→I0→J0→K0→Prop}(h:F a b c d e f g h i j k):∃ a b c d e f g h i j k,F a b c d e f g h i j k:=⟨_,_,_,_,_,_,_,_,_,_,_,h⟩
theorem X12{F:A0→B0→C0→D0→E0→F0→G0→H0→I0→J0→K0→L0→Prop}(h:F a b c d e f g h i j k l):∃ a b c d e f g h i j k l,F a b c d e f g h i j k l:=⟨_,_,_,_,_,_,_,_,_,_,_,_,h⟩
theorem X17{F:A0→B0→C0→D0→E0→F0→G0→H0→I0→J0→K0→L0→M0→N0→O0→P0→Q0→Prop}(h:F a b c d e f g h i j k l m n o p q):∃ a b c d e f g h i j k l m n o p q,F a b c d e f g h i j k l m n o p q:=⟨_,_,_,_,_,_,_,_,_,_,_,_,_,_,_,_,_,h⟩
theorem X19{F:A0→B0→C0→D0→E0→F0→G0→H0→I0→J0→K0→L0→M0→N0→O0→P0→Q0→R0→S0→Prop}(h:F a b c d e f g h i j k l m n o p q r s):∃ a b c d e f g h i j k l m n o p q r s,F a b c d e f g h i j k l m n o p q r s:=⟨_,_,_,_,_,_,_,_,_,_,_,_,_,_,_,_,_,_,_,h⟩
theorem X22{F:A0→B0→C0→D0→E0→F0→G0→H0→I0→J0→K0→L0→M0→N0→O0→P0→Q0→R0→S0→T0→U0→V0→Prop}(h:F a b c d e f g h i j k l m n o p q r s t u v):∃ a b c d e f g h i j k l m n o p q r s t u v,F a b c d e f g h i j k l m n o p q r s t u v:=⟨_,_,_,_,_,_,_,_,_,_,_,_,_,_,_,_,_,_,_,_,_,_,h⟩
end
end Go.Cb

namespace Go.Cb
open Go.RowKit
theorem Lo{P:Program}{k:TypeId}(hK:Maps.Keyed P k){f0 f1:Field}(hk:P.underlying k=some (.struct #[f0,f1]))(h0:P.underlying f0.type=some (.int .i64))(h1:P.underlying f1.type=some (.int .i64))
    (hn:(f0.name != "_" && f1.name != "_")=true) (hc:P.cellsOf k=2∧P.cellsOf f0.type=1∧P.cellsOf f1.type=1∧f0.offset=0∧f1.offset=1) (ht:P.keyType k=true) (hs:Nat.ble 1 P.types.size=true):rK P k xS:=by
  refine ⟨hK,fun j h=>?_⟩
  obtain ⟨a,b⟩:=j
  obtain ⟨m,hs⟩:=Nat.exists_eq_succ_of_ne_zero (Nat.ne_of_gt (Nat.le_of_ble_eq_true hs))
  obtain ⟨c0,c1,c2,o1,o2⟩:=hc
  simp only [xS,Bool.and_eq_true] at h hn
  have e1:P.keyLits (m+1) f0.type [.int .i64 a]=some [.int .i64 a]:=by simp [Program.keyLits,h0,h.1]
  have e2:P.keyLits (m+1) f1.type [.int .i64 b]=some [.int .i64 b]:=by simp [Program.keyLits,h1,h.2]
  have e3:P.keyLits (P.types.size+1) k [.int .i64 a,.int .i64 b]=some [.int .i64 a,.int .i64 b]:=by
    rw [hs]
    unfold Program.keyLits
    simp [hk,c0,hn.1,hn.2,List.mapM_cons,o1,o2,c1,c2,e1,e2]
  have e4:Value.formed P k (.agg #[.int .i64 a,.int .i64 b])=true:=by simp [Value.formed,hk,c0]
  show keyOf P k (.agg #[.int .i64 a,.int .i64 b])=some (.string (keyBytes [.int .i64 a,.int .i64 b]))
  simp [keyOf,hk,ht,e4,Value.cells,e3]
end Go.Cb
