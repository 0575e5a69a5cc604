/- Base 44: slices.Sorted of a map's keys, what is plain of it. -/
import Derived.Test.YtpbgbliikifjjaaGreatDoorB43se
import Derived.Shelf.SlIterI.Sorted
import Derived.Shelf.SortM.Plain
import Derived.Shelf.SortM.SortNone
set_option linter.unusedVariables false
set_option linter.unusedSimpArgs false
namespace Go.Cb
open Go Go.Shelf Go.Proofs Go.RowKit
/-- what slices.Sorted makes of numbers. -/
def En(l:List Int):List Int:=l.mergeSort fun x y=>decide (x ≤ y)
theorem V9:∀ (a b:List Int),a.Nodup→(∀ x ∈ a,x ∈ b)→b.length ≤ a.length→a.Perm b
  | [],b,_,_,h=>by
    have:b= []:=List.eq_nil_of_length_eq_zero (by simpa using h)
    rw [this]
  | x::a,b,hn,hs,hl=>by
    have hx:x ∈ b:=hs x (by simp)
    have hp:=List.perm_cons_erase hx
    obtain ⟨h1,h2⟩:=List.nodup_cons.1 hn
    refine List.Perm.trans (List.Perm.cons x (V9 a (b.erase x) h2 (fun y hy=>?_) ?_)) hp.symm
    · exact (List.mem_erase_of_ne (by rintro rfl;exact h1 hy)).2 (hs y (by simp [hy]))
    · rw [List.length_erase_of_mem hx];simp at hl;omega
theorem Ge{α:Type}{x:Int}{y:α}:∀ {l:List (Int×α)},dY l x=some y→x ∈ l.map (·.1)
  | [],h=>by cases h
  | (k,z)::l,h=>by
    unfold dY at h
    split at h
    · rename_i e;simp [e]
    · have:=Ge h;simp only [List.map_cons,List.mem_cons];exact .inr this
theorem Kt:∀ ss:List Int,(⟨fun x=>[.int .i64 x],fun h=>h,rfl⟩:eJ (kI .i64)).encs ss=ss.map encZ
  | []=>rfl
  | x::xs=>by
    have:=Kt xs
    unfold eJ.encs at this ⊢
    rw [List.flatMap_cons,this]
    rfl
theorem Ku{P:Program}{k:TypeId}{α:Type}{l:List (Int×α)}{D:DataW Value}{w:World}{b n:Nat}(hk:P.underlying k=some (.int .i64))(hown:w.ownsMap P k rdV b n D)(hs:Maps.size D=l.length)(ht:Maps.Tidy D)
    (hnone:∀ j,(kyI .i64).ok j=true→dY l j=none→Maps.has D ((kyI .i64).lit j)=false):(intKeys D).Perm (l.map (·.1)):=by
  have hwf:=intKeys_wf hown hk
  obtain ⟨es,hD0,hpw⟩:=ht
  obtain ⟨es',hD',hko⟩:=hown.keysOf
  obtain rfl:es=es':=by rw [hD0] at hD';simpa using hD'
  subst hD0
  have hform:∀ p ∈ es,∃ x,p.1= .int .i64 x:=fun p hp=>by
    obtain ⟨v,hv⟩:=hko p hp
    obtain ⟨x,_,hx,_⟩:=Maps.keyOf_i64 hk hv
    exact ⟨x,hx⟩
  have hnd:(intKeys (.map es)).Nodup:=by
    unfold intKeys
    rw [List.Nodup,List.pairwise_map]
    refine hpw.imp_of_mem fun {p q} hp hq hne e=>hne ?_
    obtain ⟨x,hx⟩:=hform p hp
    obtain ⟨y,hy⟩:=hform q hq
    rw [hx,hy] at e ⊢
    have:x=y:=e
    rw [this]
  refine V9 _ _ hnd (fun x hx=>?_) (by rw [List.length_map,← hs];simp [intKeys,Maps.size])
  have hok:=hwf x hx
  have hhas:Maps.has (.map es:DataW Value) (.int .i64 x)=true:=by
    rw [Maps.has_eq,List.any_eq_true]
    obtain ⟨p,hp,rfl⟩:=List.mem_map.1 hx
    obtain ⟨y,hy⟩:=hform p hp
    refine ⟨p,hp,?_⟩
    rw [hy]
    simp [intOf,Lit.sameKey]
  cases hg:dY l x with
  | none=>have:=hnone x hok hg;rw [show (kyI .i64).lit x=Lit.int .i64 x from rfl,hhas] at this;cases this
  | some y=>exact Ge hg
/-- a new row that a contract tells of. -/
theorem Sep.ownsRow {w w':World} {os:List Ob} {rs:List Rp} {e:TypeId} {v:Value} {ss:List Int} (H:Sep w os rs) (hr:w'.ownsRow w.heap.size e 1 v ss.length (ss.map encZ)) (hb:Below w.heap.size w w'):Sep w' (Row e (kI .i64) v ss::os) rs:=by
  refine H.new ⟨hb.os,hb.tape,hb.output,hb.size,fun b h _=>hb.block b h⟩ fun ok _=>⟨ss.map encZ,?_,?_,fun g hg=>?_⟩
  · obtain ⟨h1,h2⟩:=hr
    refine ⟨h1,?_⟩
    rcases h2 with h2 | ⟨g,cap,cur,hv,h3,h4⟩
    · exact .inl h2
    · exact .inr ⟨g,cap,cur,hv,Nat.zero_le _,h4⟩
  · have:=N8 (d:=kI .i64) (⟨fun x=>[.int .i64 x],fun h=>h,rfl⟩:eJ (kI .i64)) (w:=w') (ok:=fun b=>ok b∧b < w.heap.size) ss
    rw [Kt] at this
    exact this
  · rcases hr.2 with ⟨rfl,_⟩ | ⟨g',cap,cur,rfl,h3,_⟩
    · cases hg
    · cases hg;exact h3
end Go.Cb
