/- The base: frames, worlds as owned objects and reads, steps, operations. -/
import Derived.Test.YtppeaaolgckfcaaGreatDoorAsm1
import Derived.DeepKeys4
import Derived.Shelf.Bodies2
import Derived.Shelf.Sort.Plain
import Derived.Shelf.Slices.In.SortNone
import Derived.Shelf.Slices.CompactS
import Derived.Shelf.SlIterI.Sorted
import Derived.Shelf.SortM.Plain
import Derived.Shelf.SortM.SortNone
set_option linter.unusedVariables false
set_option linter.unusedSimpArgs false
set_option maxRecDepth 20000
set_option maxHeartbeats 1000000
namespace Go.Cb
open Go.RowKit

section
variable {α:Type} {d:Kd α} {w:WD} {os:List Ob} {rs:List Rp}
/-- an element of a row: its cells, told once for all. -/
theorem Sep.rowElem (H:Sep w os rs) {i:Nat} {e:TI} {g m c:Nat} {xs:List α} (hi:os[i]? =some (Row e d (.slice (some ⟨g,0,none⟩) m c) xs)) {j:Int} {y:α} (hj:idx xs j=some y) :
  ∃ cs,Sep w os (rCs d cs y::rs)/\cs.length=d.sz/\∀ k u,cs[k]? =some u->w.cell? ⟨g,j.toNat * d.sz+k,none⟩=some u:=by
 obtain ⟨col,h1,h2⟩:=H;obtain ⟨flat,⟨hl,h⟩,hr,ho⟩:=h1 i _ hi;obtain ⟨_,hlt,hy⟩:=W8 hj;have hR:=hr.2 _ _ hy;refine ⟨(flat.drop (j.toNat * d.sz)).take d.sz,⟨col,h1,λr hr'=>?_⟩,d.len hR,λk u hk=>?_⟩
 ·cases hr' with
  | head=>exact hR
  | tail _ hr'=>exact h2 r hr'
 rcases h with ⟨h,_⟩ | ⟨g',cap,cur,hv,_,hh,hn,_,hs,ht⟩
 ·cases h
 cases hv;rw [cell_of_row w g (j.toNat * d.sz+k) cur e _ hh];rw [List.getElem?_take] at hk;split at hk
 ·rw [List.getElem?_drop,← ht,List.getElem?_take] at hk;split at hk
  ·simpa using hk
  cases hk
 cases hk
theorem Rx:∀ (cs:List VL) (k:Nat) (us:List VL),k+us.length <= cs.length->(cE cs k us).length=cs.length
 | cs,k,[],_=>rfl
 | cs,k,u::us,h=>by
  unfold cE;rw [Rx _ _ us (by simp at h ⊢;omega)];simp
end
/-- the cells of a row's elements. -/
def DC{α:Type}(d:Kd α)(xs:List α)(flat:List VL):Rp:=⟨λw ok=>Rows d w ok xs flat,λh k hk=>h.keep k hk⟩
section
variable {α:Type} {d:Kd α} {w:WD} {os:List Ob} {rs:List Rp}
theorem Sep.rowBlkG (H:Sep w os rs) {i:Nat} {e:TI} {g n c:Nat} {xs:List α} (hi:os[i]? =some (Row e d (.slice (some ⟨g,0,none⟩) n c) xs)) :
  ∃ cs,Sep w (os.set i (Blk g e cs)) (DC d xs (cs.take (n * d.sz))::rs)/\xs.length=n/\n <= c/\c <= maxLen/\cs.length=c * d.sz:=by
 obtain ⟨col,h1,h2⟩:=H;obtain ⟨flat,⟨hl,h⟩,hr,ho⟩:=h1 i _ hi;rcases h with ⟨h,_⟩ | ⟨g',cap,cur,hv,hb,hh,hn,hcap,hs,ht⟩
 ·cases h
 cases hv;refine ⟨cur.toList,⟨col,λq o hq=>?_,λr hr'=>?_⟩,rfl,hn,hcap,by simpa using hs⟩
 ·by_cases e':i=q
  ·subst e';rw [List.getElem?_set_self (List.getElem?_eq_some_iff.1 hi).1] at hq;cases hq;exact ⟨ho g rfl,by simpa using hh⟩
  rw [List.getElem?_set_ne e'] at hq;exact h1 q o hq
 cases hr' with
 | head=>show Rows d w _ xs _;rw [ht];exact hr
 | tail _ hr'=>exact h2 r hr'
theorem Sep.blkRowG (H:Sep w os rs) {i:Nat} {e:TI} {g n c:Nat} {xs:List α} {cs:List VL} (hi:os[i]? =some (Blk g e cs)) (hx:xs.length=n) (hn:n <= c) (hc:c <= maxLen) (hl:cs.length=c * d.sz) (hm:DC d xs (cs.take (n * d.sz)) ∈ rs) :
  Sep w (os.set i (Row e d (.slice (some ⟨g,0,none⟩) n c) xs)) rs:=by
 obtain ⟨col,h1,h2⟩:=H;have hr:Rows d w _ xs (cs.take (n * d.sz)):=h2 _ hm;refine ⟨col,λq o hq=>?_,h2⟩;by_cases e':i=q
 ·subst e';rw [List.getElem?_set_self (List.getElem?_eq_some_iff.1 hi).1] at hq;cases hq;obtain ⟨ho,hh⟩:=h1 i _ hi;refine ⟨cs.take (n * d.sz),⟨by rw [hr.1,hx],.inr ⟨g,c,cs.toArray,by rw [hx],Nat.zero_le _,hh,by omega,hc,by simpa using hl,by rw [hx]⟩⟩,hr,λg' hg=>by cases hg;exact ho⟩
 rw [List.getElem?_set_ne e'] at hq;exact h1 q o hq
/-- the cells of one element that is changed. -/
theorem AQ{ok:Nat->Prop}{xs:List α}{flat:List VL}(h:Rows d w ok xs flat){j k:Nat}{y y':α}{us:List VL}(hj:xs[j]? =some y)(hk:k+us.length <= d.sz)
  (hR:∀ cs,d.R w ok y cs->d.R w ok y' (cE cs k us)):Rows d w ok (xs.set j y') (cE flat (j * d.sz+k) us):=by
 have hjl:=(List.getElem?_eq_some_iff.1 hj).1;have h0:=hR _ (h.2 j y hj);have hb:j * d.sz+d.sz <= flat.length:=by rw [h.1,← Nat.succ_mul];exact Nat.mul_le_mul_right _ hjl
 have hset:=h.set (x:=y') h0 hjl;have hcl:((flat.drop (j * d.sz)).take d.sz).length=d.sz:=by rw [List.length_take,List.length_drop];omega
 have e:flat.take (j * d.sz) ++ cE ((flat.drop (j * d.sz)).take d.sz) k us ++ flat.drop (j * d.sz+d.sz)=cE flat (j * d.sz+k) us:=by
  rw [xB _ _ _ (by omega),xB _ _ _ (by omega)];apply List.ext_getElem?;intro z;have l1:(flat.take (j * d.sz)).length=j * d.sz:=by rw [List.length_take];omega
  simp only [List.append_assoc];rw [List.take_take,Nat.min_eq_left (by omega),List.drop_take];by_cases z1:z < j * d.sz
  ·rw [List.getElem?_append_left (by omega),List.getElem?_append_left (by rw [List.length_take];omega),List.getElem?_take,List.getElem?_take,iP z1,iP (by omega)]
  rw [List.getElem?_append_right (by omega),l1];have l2:(flat.take (j * d.sz+k)).length=j * d.sz+k:=by rw [List.length_take];omega
  have l3:((flat.drop (j * d.sz)).take k).length=k:=by rw [List.length_take,List.length_drop];omega
  by_cases z2:z < j * d.sz+k
  ·rw [List.getElem?_append_left (by omega),List.getElem?_append_left (by omega),List.getElem?_take,List.getElem?_take,iP (by omega),iP z2,List.getElem?_drop];congr 1;omega
  have r1:∀ X:List VL,((flat.drop (j * d.sz)).take k ++ X)[z - j * d.sz]? =X[z - (j * d.sz+k)]? :=λX=>by rw [List.getElem?_append_right (by omega),l3];congr 1;omega
  have r2:∀ X:List VL,(flat.take (j * d.sz+k) ++ X)[z]? =X[z - (j * d.sz+k)]? :=λX=>by rw [List.getElem?_append_right (by omega),l2]
  rw [r1,r2];by_cases z3:z - (j * d.sz+k) < us.length
  ·rw [List.getElem?_append_left z3,List.getElem?_append_left z3]
  have r3:∀ X:List VL,(us ++ X)[z - (j * d.sz+k)]? =X[z - (j * d.sz+k) - us.length]? :=λX=>List.getElem?_append_right (by omega);rw [r3,r3];have l4:((flat.drop (j * d.sz)).drop (k+us.length) |>.take (d.sz - (k+us.length))).length=d.sz - (k+us.length):=by rw [List.length_take,List.length_drop,List.length_drop];omega
  rw [List.getElem?_append,l4];split
  ·rw [List.getElem?_take,iP (by assumption),List.getElem?_drop,List.getElem?_drop,List.getElem?_drop];congr 1;omega
  rw [List.getElem?_drop,List.getElem?_drop];congr 1;omega
 rw [← e];exact hset
theorem Pf:∀ (us cs:List VL) (k m:Nat),k+us.length <= m->(cE cs k us).take m=cE (cs.take m) k us
 | [],cs,k,m,_=>rfl
 | u::us,cs,k,m,h=>by
  unfold cE;rw [Pf us _ _ _ (by simp at h;omega),List.take_set]
end
section
variable {P:Program} {ops:Array Oper} {Q:Exit->Act->WD->Prop} {rest:List Oper} {o:Oper} {w:WD} {a:Act} {n:Nat} {env:List (Nat×VL)} {os:List Ob} {rs:List Rp} {α:Type} {d:Kd α}
/-- a load of a plain field of an element. -/
theorem FK(E:Env n a env)(H:Sep w os rs)(hw:Region.wanted o (yielded ops a.tmps)=true){dd:Nat}(hd:o.dst=some dd)(hdn:Nat.ble (dd+1) n=true){x:Operand}{t:TI}{i:Nat}{e:TI}{g m c k:Nat}{xs:List α}{j:Int}{y:α}{ds:TypeDesc}
  (ho:o.op= .load t x) (hx:opv env x=some (.pointer (some ⟨g,j.toNat * d.sz+k,none⟩))) (hi:os[i]? =some (Row e d (.slice (some ⟨g,0,none⟩) m c) xs)) (hj:idx xs j=some y) (hk:Nat.ble (k+1) d.sz=true) (hu:P.underlying t=some ds) (hp:dM ds=true)
  (K:∀ cs a',Sep w os (rCs d cs y::rs)->Env n a' ((dd,cs.getD k undef)::env)->wpList P ops Q rest a' w):wpList P ops Q (o::rest) a w:=by
 obtain ⟨cs,H',hl,hc⟩:=H.rowElem hi hj;have hk':k < cs.length:=by rw [hl];exact Nat.le_of_ble_eq_true hk
 refine eS E hw hd hdn (kT E ho hx (Q9 hu hp (hc k cs[k] (List.getElem?_eq_getElem hk')))) λa' E'=>K cs a' H' ?_;have:cs.getD k undef=cs[k]:=by simp [List.getD_eq_getElem?_getD,List.getElem?_eq_getElem hk']
 rw [this];exact E'
/-- a load of a part, or all, of an element. -/
theorem DD(E:Env n a env)(H:Sep w os rs)(hw:Region.wanted o (yielded ops a.tmps)=true){dd:Nat}(hd:o.dst=some dd)(hdn:Nat.ble (dd+1) n=true){x:Operand}{t:TI}{i:Nat}{e:TI}{g m c k s:Nat}{xs:List α}{j:Int}{y:α}{ds:TypeDesc}
  (ho:o.op= .load t x) (hx:opv env x=some (.pointer (some ⟨g,j.toNat * d.sz+k,none⟩))) (hi:os[i]? =some (Row e d (.slice (some ⟨g,0,none⟩) m c) xs)) (hj:idx xs j=some y) (hk:Nat.ble (k+s) d.sz=true) (hu:P.underlying t=some ds) (hp:dM ds=false) (hs:(P.info? t).map (·.size)=some s)
  (K:∀ cs a',Sep w os (rCs d cs y::rs)->Env n a' ((dd,.agg ((cs.drop k).take s).toArray)::env)->wpList P ops Q rest a' w):wpList P ops Q (o::rest) a w:=by
 obtain ⟨cs,H',hl,hc⟩:=H.rowElem hi hj;have hk':=Nat.le_of_ble_eq_true hk;have hlen:((cs.drop k).take s).length=s:=by rw [List.length_take,List.length_drop];omega
 refine eS E hw hd hdn (kT E ho hx (Bq hu hp (by rw [hs,hlen]) λq u hq=>?_)) λa' E'=>K cs a' H' E';rw [qG,Nat.add_assoc];refine hc (k+q) u ?_;rw [List.getElem?_take] at hq;split at hq
 ·rw [List.getElem?_drop] at hq;exact hq
 cases hq
/-- a store into an element. -/
theorem FL(E:Env n a env)(H:Sep w os rs)(hw:Region.wanted o (yielded ops a.tmps)=true)(hd:o.dst=none){x z:Operand}{t:TI}{i:Nat}{e:TI}{g m c k:Nat}{xs:List α}{j:Int}{y y':α}{v:VL}{us:List VL}
  (ho:o.op= .store t x z) (hx:opv env x=some (.pointer (some ⟨g,j.toNat * d.sz+k,none⟩))) (hz:opv env z=some v) (hv:v.cells=us.toArray) (hi:os[i]? =some (Row e d (.slice (some ⟨g,0,none⟩) m c) xs)) (hj:idx xs j=some y) (hk:Nat.ble (k+us.length) d.sz=true) (hs:(P.info? t).map (·.size)=some us.length) (h1:us.all (·.oneCell')=true)
  (hR:∀ ok cs,(∀ r:Rp,r ∈ rs->r.p w ok)->d.R w ok y cs->d.R w ok y' (cE cs k us))
  (K:∀ w',Sep w' (os.set i (Row e d (.slice (some ⟨g,0,none⟩) m c) (xs.set j.toNat y'))) rs->wpList P ops Q rest a w'):wpList P ops Q (o::rest) a w:=by
 obtain ⟨cs,H1,hn,hnc,hcm,hcl⟩:=H.rowBlkG hi;obtain ⟨_,hlt,hy⟩:=W8 hj;have hil:i < os.length:=(List.getElem?_eq_some_iff.1 hi).1;have hk':=Nat.le_of_ble_eq_true hk;have hfit:j.toNat * d.sz+d.sz <= m * d.sz:=by rw [← Nat.succ_mul];exact Nat.mul_le_mul_right _ (by omega)
 have hmc:m * d.sz <= c * d.sz:=Nat.mul_le_mul_right _ hnc;have H2:Sep w (os.set i (Blk g e cs)) (DC d (xs.set j.toNat y') ((cE cs (j.toNat * d.sz+k) us).take (m * d.sz))::DC d xs (cs.take (m * d.sz))::rs):=by
  refine H1.derive _ λok hr=>?_;show Rows d w ok _ _;rw [Pf _ _ _ _ (by omega)];exact AQ (hr _ (.head _)) hy hk' λcs' h=>hR ok cs' (λr h'=>hr r (.tail _ h')) h
 obtain ⟨w',hr,H3⟩:=Sep.store P us H2 (i:=i) (List.getElem?_set_self hil) (j.toNat * d.sz+k) 0 (by omega) (by simpa using h1);rw [Nat.add_zero,List.set_set] at H3;have H4:=H3.blkRowG (d:=d) (xs:=xs.set j.toNat y') (n:=m) (c:=c) (List.getElem?_set_self hil) (by rw [List.length_set];exact hn) hnc hcm (by rw [Rx _ _ _ (by omega)];exact hcl) (.head _);rw [List.set_set] at H4;refine Bo E hw hd (w':=w') ?_ (K w' (H4.reads λr hr=>.tail _ (.tail _ hr)));simp only [execOp,ho,E.eval hx,E.eval hz];simp [Sem.run_bind,Instr.storeAt,Instr.sureAddr,storeVar,jN hs,hv,hr]
theorem Ae(E:Env n a env)(H:Sep w os rs){v:VL}{g m c:Nat}(hv:v= .slice (some ⟨g,0,none⟩) m c)(hw:Region.wanted o (yielded ops a.tmps)=true){dd:Nat}(hd:o.dst=some dd)(hdn:Nat.ble (dd+1) n=true){x:Operand}{t:TI}{i:Nat}{e:TI}{k:Nat}{xs:List α}{j:Int}{y:α}{ds:TypeDesc}
  (ho:o.op= .load t x) (hx:opv env x=some (.pointer (some ⟨g,j.toNat * d.sz+k,none⟩))) (hi:os[i]? =some (Row e d v xs)) (hj:idx xs j=some y) (hk:Nat.ble (k+1) d.sz=true) (hu:P.underlying t=some ds) (hp:dM ds=true)
  (K:∀ cs a',Sep w os (rCs d cs y::rs)->Env n a' ((dd,cs.getD k undef)::env)->wpList P ops Q rest a' w):wpList P ops Q (o::rest) a w:=by
 subst hv;exact FK E H hw hd hdn ho hx hi hj hk hu hp K
theorem Ry(E:Env n a env)(H:Sep w os rs){v:VL}{g m c:Nat}(hv:v= .slice (some ⟨g,0,none⟩) m c)(hw:Region.wanted o (yielded ops a.tmps)=true){dd:Nat}(hd:o.dst=some dd)(hdn:Nat.ble (dd+1) n=true){x:Operand}{t:TI}{i:Nat}{e:TI}{k s:Nat}{xs:List α}{j:Int}{y:α}{ds:TypeDesc}
  (ho:o.op= .load t x) (hx:opv env x=some (.pointer (some ⟨g,j.toNat * d.sz+k,none⟩))) (hi:os[i]? =some (Row e d v xs)) (hj:idx xs j=some y) (hk:Nat.ble (k+s) d.sz=true) (hu:P.underlying t=some ds) (hp:dM ds=false) (hs:(P.info? t).map (·.size)=some s)
  (K:∀ cs a',Sep w os (rCs d cs y::rs)->Env n a' ((dd,.agg ((cs.drop k).take s).toArray)::env)->wpList P ops Q rest a' w):wpList P ops Q (o::rest) a w:=by
 subst hv;exact DD E H hw hd hdn ho hx hi hj hk hu hp hs K
theorem Am(E:Env n a env)(H:Sep w os rs){v:VL}{g m c:Nat}(hv:v= .slice (some ⟨g,0,none⟩) m c)(hw:Region.wanted o (yielded ops a.tmps)=true)(hd:o.dst=none){x z:Operand}{t:TI}{i:Nat}{e:TI}{k:Nat}{xs:List α}{j:Int}{y y':α}{u:VL}{us:List VL}
  (ho:o.op= .store t x z) (hx:opv env x=some (.pointer (some ⟨g,j.toNat * d.sz+k,none⟩))) (hz:opv env z=some u) (hu:u.cells=us.toArray) (hi:os[i]? =some (Row e d v xs)) (hj:idx xs j=some y) (hk:Nat.ble (k+us.length) d.sz=true) (hs:(P.info? t).map (·.size)=some us.length) (h1:us.all (·.oneCell')=true)
  (hR:∀ ok cs,(∀ r:Rp,r ∈ rs->r.p w ok)->d.R w ok y cs->d.R w ok y' (cE cs k us))
  (K:∀ w',Sep w' (os.set i (Row e d v (xs.set j.toNat y'))) rs->wpList P ops Q rest a w'):wpList P ops Q (o::rest) a w:=by
 subst hv;exact FL E H hw hd ho hx hz hu hi hj hk hs h1 hR K
/-- a free load of a plain field of an element, that the datum tells. -/
theorem FM{os':List Ob}{rs':List Rp}(E:Env n a env){v:VL}{g m c:Nat}(hv:v= .slice (some ⟨g,0,none⟩) m c){xs:List α}{j:Int}{y:α}(hj:idx xs j=some y){e:TI}(hm:Row e d v xs ∈ os'){k:Nat}{u:VL}(hk:∀ w ok cs,d.R w ok y cs->cs[k]? =some u)
  {x:Operand} {t:TI} {ds:TypeDesc} (ho:o.op= .load t x) (hx:opv env x=some (.pointer (some ⟨g,j.toNat * d.sz+k,none⟩))) (hu:P.underlying t=some ds) (hp:dM ds=true) (hW:dL os' rs' w):(execOp a.eval o).run P w= .ok (.value u) w:=by
 obtain ⟨os1,rs1,H,h1,_⟩:=hW;obtain ⟨i,hi,he⟩:=List.mem_iff_getElem.1 (h1 _ hm);subst hv;obtain ⟨cs,H',hl,hc⟩:=H.rowElem (i:=i) (by rw [List.getElem?_eq_getElem hi,he]) hj;obtain ⟨ok,hR⟩:=H'.rd (.head _);exact kT E ho hx (Q9 hu hp (hc k u (hk _ _ _ hR)))
end
end Go.Cb

namespace Go.Cb
open Go.RowKit

def Raw(n:Nat):Type:={ cs:List VL // cs.length=n/\∀ c ∈ cs,c.oneCell'=true }
def kR(n:Nat)(h:0 < n):Kd (Raw n) where
 sz:=n
 pos:=h
 R _ _ x cs:=cs=x.1
 len:=by rintro w ok x cs rfl;exact x.2.1
 one:=by rintro w ok x cs rfl;exact x.2.2
 keep h _ _:=h
def kRf(n:Nat)(h:0 < n):iF (kR n h):=⟨λx=>x.1,λh=>h,rfl⟩
/-- data and their cells, one by one. -/
def Dc{α:Type}{n:Nat}(d:Kd α)(xs:List α)(ys:List (Raw n)):Rp where
 p w ok:=xs.length=ys.length/\∀ (i:Nat) (x:α) (y:Raw n),xs[i]? =some x->ys[i]? =some y->d.R w ok x y.1
 keep:=by
  rintro w w' ok ok' ⟨h1,h2⟩ k hk;exact ⟨h1,λi x y hx hy=>d.keep (h2 i x y hx hy) k hk⟩
section
variable {α:Type} {d:Kd α} {w:WD} {os:List Ob} {rs:List Rp} {e:TI} {v:VL} {xs:List α}
theorem Sep.toRaw (H:Sep w os rs) {i:Nat} (hi:os[i]? =some (Row e d v xs)):∃ ys:List (Raw d.sz),Sep w (os.set i (Row e (kR d.sz d.pos) v ys)) (Dc d xs ys::rs)/\ys.length=xs.length:=by
 obtain ⟨col,h1,h2⟩:=H;obtain ⟨flat,hown,hr,ho⟩:=h1 i _ hi;have hone:=hr.one;have hch:∀ j,j < xs.length->((flat.drop (j * d.sz)).take d.sz).length=d.sz/\∀ c ∈ (flat.drop (j * d.sz)).take d.sz,c.oneCell'=true:=λj hj=>⟨d.len (hr.2 j _ (List.getElem?_eq_getElem hj)),λc hc=>hone c (List.mem_of_mem_drop (List.mem_of_mem_take hc))⟩
 let ys:List (Raw d.sz):=List.ofFn λj:Fin xs.length=>⟨(flat.drop (j.1 * d.sz)).take d.sz,hch j.1 j.2⟩
 have hl:ys.length=xs.length:=List.length_ofFn;have hy:∀ j y,ys[j]? =some y->(flat.drop (j * d.sz)).take d.sz=y.1:=λj y h=>by
  obtain ⟨hj,rfl⟩:=List.getElem?_eq_some_iff.1 h;exact (congrArg Subtype.val (List.getElem_ofFn (f:=λj:Fin xs.length=>(⟨(flat.drop (j.1 * d.sz)).take d.sz,hch j.1 j.2⟩:Raw d.sz)) hj)).symm
 refine ⟨ys,⟨col,λq o hq=>?_,λr hr'=>?_⟩,hl⟩
 ·by_cases e':i=q
  ·subst e';rw [List.getElem?_set_self (List.getElem?_eq_some_iff.1 hi).1] at hq;cases hq;exact ⟨flat,by rw [hl];exact hown,⟨by rw [hl];exact hr.1,λj y h=>hy j y h⟩,ho⟩
  rw [List.getElem?_set_ne e'] at hq;exact h1 q o hq
 cases hr' with
 | head=>exact ⟨hl.symm,λj x y hx h=>by rw [← hy j y h];exact hr.2 j x hx⟩
 | tail _ hr'=>exact h2 r hr'
theorem Sep.ofRaw (H:Sep w os rs) {i:Nat} {ys:List (Raw d.sz)} (hi:os[i]? =some (Row e (kR d.sz d.pos) v ys)) (hm:Dc d xs ys ∈ rs):Sep w (os.set i (Row e d v xs)) rs:=by
 obtain ⟨col,h1,h2⟩:=H;obtain ⟨hl,hx⟩:=h2 _ hm;obtain ⟨flat,hown,hr,ho⟩:=h1 i _ hi;refine ⟨col,λq o hq=>?_,h2⟩;by_cases e':i=q
 ·subst e';rw [List.getElem?_set_self (List.getElem?_eq_some_iff.1 hi).1] at hq;cases hq;refine ⟨flat,by rw [hl];exact hown,⟨by rw [hl];exact hr.1,λj x h=>?_⟩,ho⟩;have hj:j < ys.length:=by rw [← hl];exact (List.getElem?_eq_some_iff.1 h).1
  have h3:(flat.drop (j * d.sz)).take d.sz=(ys[j]).1:=hr.2 j _ (List.getElem?_eq_getElem hj);rw [h3];exact hx j x _ h (List.getElem?_eq_getElem hj)
 rw [List.getElem?_set_ne e'] at hq;exact h1 q o hq
end
section
variable {α:Type} {d:Kd α} {w:WD} {ok:Nat->Prop} {xs us:List α} {n:Nat} {ys vs:List (Raw n)}
theorem IF(h:(Dc d xs ys).p w ok)(k:Nat):(Dc d (xs.take k) (ys.take k)).p w ok:=by
 obtain ⟨h1,h2⟩:=h;refine ⟨by rw [List.length_take,List.length_take,h1],λi x y hx hy=>?_⟩;rw [List.getElem?_take] at hx hy;split at hx
 ·rw [iP (by assumption)] at hy;exact h2 i x y hx hy
 cases hx
theorem IG(h:(Dc d xs ys).p w ok)(k:Nat):(Dc d (xs.drop k) (ys.drop k)).p w ok:=by
 obtain ⟨h1,h2⟩:=h;refine ⟨by rw [List.length_drop,List.length_drop,h1],λi x y hx hy=>?_⟩;rw [List.getElem?_drop] at hx hy;exact h2 _ x y hx hy
theorem BO(h:(Dc d xs ys).p w ok)(k:(Dc d us vs).p w ok):(Dc d (xs ++ us) (ys ++ vs)).p w ok:=by
 obtain ⟨h1,h2⟩:=h;obtain ⟨k1,k2⟩:=k;refine ⟨by rw [List.length_append,List.length_append,h1,k1],λi x y hx hy=>?_⟩;by_cases hi:i < xs.length
 ·rw [List.getElem?_append_left hi] at hx;rw [List.getElem?_append_left (by omega)] at hy;exact h2 i x y hx hy
 rw [List.getElem?_append_right (by omega)] at hx;rw [List.getElem?_append_right (by omega)] at hy;rw [h1] at hx;exact k2 _ x y hx hy
end
/-- Insert at rows of cells: Insert at any rows. -/
theorem II{α:Type}{d:Kd α}{P:Program}{f:FuncId}{e:TI}{w:WD}{os:List Ob}{rs:List Rp}{ix iu:Nat}{v u:VL}{xs:List α}{y:α}{a:Int}
  (raw:∀ {w:WD} {os:List Ob} {rs:List Rp} {ix iu:Nat} {v u:VL} {xs:List (Raw d.sz)} {y:Raw d.sz} (_:Sep w os rs) (_:os[ix]? =some (Row e (kR d.sz d.pos) v xs)) (_:os[iu]? =some (Row e (kR d.sz d.pos) u [y])) (_:ix ≠ iu) {a:Int} (_:0 <= a/\a <= xs.length/\xs.length <= 1000000),
   Calls P f [v,.int .i64 a,u].toArray w (Ret λv' w'=>Sep w' (os.set ix (Row e (kR d.sz d.pos) v' (xs.take a.toNat ++ y::xs.drop a.toNat))) rs))
  (H:Sep w os rs) (hi:os[ix]? =some (Row e d v xs)) (hu:os[iu]? =some (Row e d u [y])) (hne:ix ≠ iu) (ha:0 <= a/\a <= xs.length/\xs.length <= 1000000) :
  Calls P f [v,.int .i64 a,u].toArray w (Ret λv' w'=>Sep w' (os.set ix (Row e d v' (xs.take a.toNat ++ y::xs.drop a.toNat))) rs):=by
 have hil:=(List.getElem?_eq_some_iff.1 hi).1;have hul:=(List.getElem?_eq_some_iff.1 hu).1;obtain ⟨ys,H1,hl⟩:=H.toRaw hi;obtain ⟨us,H2,hl2⟩:=H1.toRaw (i:=iu) (d:=d) (by rw [List.getElem?_set_ne hne];exact hu);obtain ⟨z,rfl⟩:∃ z,us= [z]:=by
  cases us with
  | nil=>simp at hl2
  | cons z us=>cases us with | nil=>exact ⟨z,rfl⟩ | cons _ _=>simp at hl2
 refine (raw (ix:=ix) (iu:=iu) H2 (by rw [List.getElem?_set_ne (Ne.symm hne),List.getElem?_set_self hil]) (by rw [List.getElem?_set_self (by simpa using hul)]) hne (by rw [hl];exact ha)).mono λex w' h=>?_;cases ex with
 | panicked c=>exact h.elim
 | outgrown=>exact h.elim
 | returned v'=>
  have h:Sep w' _ _:=h;show Sep w' _ _;have h3:=h.derive (Dc d (xs.take a.toNat ++ y::xs.drop a.toNat) (ys.take a.toNat ++ z::ys.drop a.toNat)) λok hr=>by
   have g1:(Dc d [y] [z]).p w' ok:=hr _ (.head _);have g2:(Dc d xs ys).p w' ok:=hr _ (.tail _ (.head _));exact BO (IF g2 _) (BO (us:=xs.drop a.toNat) (vs:=ys.drop a.toNat) g1 (IG g2 _))
  have h4:=h3.ofRaw (i:=ix) (d:=d) (xs:=xs.take a.toNat ++ y::xs.drop a.toNat) (List.getElem?_set_self (by simpa using hil)) (.head _);have h5:=h4.ofRaw (i:=iu) (d:=d) (xs:=[y]) (ys:=[z]) (e:=e) (v:=u) (by rw [List.getElem?_set_ne hne,List.getElem?_set_ne hne,List.getElem?_set_self (by simpa using hul)]) (.tail _ (.head _));have h6:Sep w' _ rs:=h5.reads λr hr=>.tail _ (.tail _ (.tail _ hr));have e2:((((os.set ix (Row e (kR d.sz d.pos) v ys)).set iu (Row e (kR d.sz d.pos) u [z])).set ix (Row e (kR d.sz d.pos) v' (ys.take a.toNat ++ z::ys.drop a.toNat))).set ix (Row e d v' (xs.take a.toNat ++ y::xs.drop a.toNat))).set iu (Row e d u [y])=os.set ix (Row e d v' (xs.take a.toNat ++ y::xs.drop a.toNat)):=by
   apply List.ext_getElem?;intro q;by_cases q1:iu=q
   ·subst q1;rw [List.getElem?_set_self (by simpa using hul),List.getElem?_set_ne hne];exact hu.symm
   rw [List.getElem?_set_ne q1];by_cases q2:ix=q
   ·subst q2;rw [List.getElem?_set_self (by simpa using hil),List.getElem?_set_self hil]
   rw [List.getElem?_set_ne q2,List.getElem?_set_ne q2,List.getElem?_set_ne q1,List.getElem?_set_ne q2,List.getElem?_set_ne q2]
  rw [e2] at h6;exact h6
end Go.Cb

namespace Go.Cb
open Go.RowKit
open Go.ChangeMaps (setBlock heap_setBlock_same heap_setBlock_other)

theorem IJ{κ α:Type} [DecidableEq κ] (l:List (κ×α)) (j:κ) (x y:α):lX (lX l j x) j y=lX l j y:=by
 induction l with
 | nil=>simp [lX]
 | cons p l ih=>
  obtain ⟨k,z⟩:=p;by_cases h:k=j
  ·simp [lX,h]
  simp [lX,h,ih]
theorem Sep.inst2 {w:WD} {os:List Ob} {rs:List Rp} {i:Nat} {o1 o2:Ob} (H:Sep w (os.set i o1) rs) (hi:i < os.length) (h:∀ own ok:Nat->Prop,o1.p w own ok->o2.p w own ok):Sep w (os.set i o2) rs:=by
 obtain ⟨col,h1,h2⟩:=H;refine ⟨col,λq o hq=>?_,h2⟩;by_cases e:i=q
 ·subst e;rw [List.getElem?_set_self hi] at hq;cases hq;exact h _ _ (h1 i o1 (List.getElem?_set_self hi))
 rw [List.getElem?_set_ne e] at hq;exact h1 q o (by rw [List.getElem?_set_ne e];exact hq)
/-- a map of which an entry, of key j, has stamp s. -/
def Pz{κ α:Type} [DecidableEq κ] (P:Program) (kt:TI) (K:Ky κ) (d:Kd α) (b:Nat) (l:List (κ×α)) (j:κ) (z0:α) (s:Int):Ob where
 p w own ok:=(bW P kt K d false b (lX l j ((dN l j).getD z0))).p w own ok/\(K.ok j=true/\l.length+1 < maxLen)/\∃ es clock i,w.heap[b]? =some (.map es clock)/\es.findIdx? (λe=>(e.born:Int) == s)=some i/\(es[i]?).map (·.key)=some (K.val j)
 keep:=by
  rintro w w' own own' ok ok' ⟨h1,hc,es,clock,i,h2,h3,h4⟩ k ho hk;have hlt:b < w.heap.size:=(Array.getElem?_eq_some_iff.1 h2).1;exact ⟨(bW P kt K d false b (lX l j ((dN l j).getD z0))).keep h1 k ho hk,hc,es,clock,i,(k.block b hlt (.inl h1.1)).trans h2,h3,h4⟩
section
variable {κ α:Type} [DecidableEq κ] {P:Program} {w:WD} {os:List Ob} {rs:List Rp} {k e t:TI} {K:Ky κ} {b:Nat} {l:List (κ×α)} {f:α->VL} {hf:∀ x,(f x).oneCell'=true}
theorem ev{d:Kd α}{own ok:Nat->Prop}(h:(bW P k K d false b l).p w own ok):∃ es clock D n,w.heap[b]? =some (.map es clock)/\WideElems.Fit P k rdV es clock/\w.ownsMap P k rdV b n D:=by
 obtain ⟨_,D,h2,_⟩:=h;obtain ⟨es,clock,hb,F,hs,hD⟩:=h2;exact ⟨es,clock,D,_,hb,F,es,clock,hb,F,hs,hD⟩
theorem Rz{es:Array MapEntry}{clock:Nat}(hs:MapKept.Stamped es clock){i:Nat}{e0:MapEntry}(hi:es[i]? =some e0):es.findIdx? (λe=>(e.born:Int) == (e0.born:Int))=some i:=by
 obtain ⟨hil,he⟩:=Array.getElem?_eq_some_iff.1 hi;rw [Array.findIdx?_eq_some_iff_getElem];refine ⟨hil,by rw [he];simp,λq hq=>?_⟩;have hnd:=hs.2.1;have hne:(es[q]'(by omega)).born ≠ e0.born:=λh=>by
  have h1:(es.toList.map (·.born))[q]'(by simp;omega)=(es.toList.map (·.born))[i]'(by simpa using hil):=by simp [h,he]
  have:=(List.getElem_inj hnd).1 h1;omega
 have:¬ ((es[q]'(by omega)).born:Int)=(e0.born:Int):=λh=>hne (Int.ofNat.inj h);simpa using this
theorem Sep.mapEnt (H:Sep w os rs) {i:Nat} (hi:os[i]? =some (bW P k K (Kd.scalar f hf) false b l)) (hK:E4 P k K) (ht:P.underlying t=some (.map k e)) {z0:α} (hz:(P.info? e).bind (·.zero)=some (f z0)) {j:κ} (hc:K.ok j=true/\l.length+1 < maxLen) :
  ∃ w' s,(Instr.mapEntry t (.map (some b)) (K.val j)).run P w= .ok (.tuple #[f ((dN l j).getD z0),.int .i64 s]) w'/\Sep w' (os.set i (Pz P k K (Kd.scalar f hf) b l j z0 s)) rs:=by
 obtain ⟨hok,hn1⟩:=hc;have hn:l.length < maxLen:=by omega
 have hj:=hK.2 j hok;have hilt:=(List.getElem?_eq_some_iff.1 hi).1
 -- the value
 have hval:∃ own ok,(bW P k K (Kd.scalar f hf) false b l).p w own ok:=H.ob i hi;obtain ⟨own,ok,hp⟩:=hval;obtain ⟨cs,hlook,hcs⟩:=Ad (e:=e) (t:=t) (z0:=z0) (zc:=[f z0]) false hp hK.1 ht hz rfl hok hj;have hcs':cs= [f ((dN l j).getD z0)]:=hcs;subst hcs';have hlook':(Instr.lookup t (.map (some b)) (K.val j) false).run P w= .ok (f ((dN l j).getD z0)) w:=hlook;obtain ⟨es,clock,D,nn,hb,F,_⟩:=ev hp;obtain ⟨w',hr,H'⟩:=H.mapPutL (t:=t) (x:=(dN l j).getD z0) (cs:=[f ((dN l j).getD z0)]) hi hK.1 ht hok hj (λ_ _=>rfl) hn;have hr':(Instr.mapUpdate t (.map (some b)) (K.val j) (f ((dN l j).getD z0))).run P w= .ok () w':=hr;have hzr:=Eb hz w;have hck:∀ em,(Instr.checkKey em 10000 k (K.val j)).run P w= .ok () w:=λem=>hK.1.check w em hj;rcases hK.1.find w hj es.toList (λx hx=>by obtain ⟨y,hy⟩:=F.reads x hx;exact ⟨_,WideElems.rd_key hy⟩) with ⟨h1,h2⟩ | ⟨q,e0,h1,h2,h3⟩
 ·have ew:w'=setBlock w b (.map (es.push ⟨K.val j,f ((dN l j).getD z0),clock⟩) (clock+1)):=by
   have:(Instr.mapUpdate t (.map (some b)) (K.val j) (f ((dN l j).getD z0))).run P w= .ok () (setBlock w b (.map (es.push ⟨K.val j,f ((dN l j).getD z0),clock⟩) (clock+1))):=by
    simp [Instr.mapUpdate,run_underlying ht,MapKept.run_getObj_map hb,hck,h1,MapKept.run_setObj_map _ hb,Result.andThen,setBlock]
   rw [hr'] at this;cases this;rfl
  have hv:f ((dN l j).getD z0)=f z0:=by
   have hl2:(Instr.lookup t (.map (some b)) (K.val j) false).run P w= .ok (f z0) w:=by
    simp [Instr.lookup,run_underlying ht,MapKept.run_getObj_map hb,hck,h1,hzr,Result.andThen]
   rw [hlook'] at hl2;injection hl2
  refine ⟨w',(clock:Int),?_,?_⟩
  ·rw [ew,hv];simp [Instr.mapEntry,run_underlying ht,MapKept.run_getObj_map hb,hck,h1,hzr,MapKept.run_setObj_map _ hb,Result.andThen,setBlock,goInt]
  refine Sep.inst2 H' hilt λown ok h=>⟨h,⟨hok,hn1⟩,es.push ⟨K.val j,f ((dN l j).getD z0),clock⟩,clock+1,es.size,?_,?_,by simp⟩
  ·rw [ew];exact heap_setBlock_same hb _
  exact Rz (MapKept.stamped_push F.stamped h2) (e0:=⟨K.val j,f ((dN l j).getD z0),clock⟩) (by simp)
 have hq:es[q]? =some e0:=by simpa using h2
 have hmod:es.modify q (λe'=>{ e' with key:=K.val j })=es:=by
  apply Array.ext_getElem?;intro z;rw [Array.getElem?_modify];split
  ·rename_i hz;subst hz;rw [hq];simp only [Option.map_some];rw [← h3]
  rfl
 have hmod2:es.modify q (λe'=>{ e' with key:=K.val j,val:=f ((dN l j).getD z0) })=es.modify q (λe'=>{ e' with val:=f ((dN l j).getD z0) }):=by
  apply Array.ext_getElem?;intro z;rw [Array.getElem?_modify,Array.getElem?_modify];split
  ·rename_i hz;subst hz;rw [hq];simp only [Option.map_some];rw [← h3]
  rfl
 have hv:e0.val=f ((dN l j).getD z0):=by
  have hl2:(Instr.lookup t (.map (some b)) (K.val j) false).run P w= .ok e0.val w:=by
   simp [Instr.lookup,run_underlying ht,MapKept.run_getObj_map hb,hck,h1,Result.andThen]
  rw [hlook'] at hl2;injection hl2 with h _;exact h.symm
 have hmod3:es.modify q (λe'=>{ e' with val:=f ((dN l j).getD z0) })=es:=by
  apply Array.ext_getElem?;intro z;rw [Array.getElem?_modify];split
  ·rename_i hz;subst hz;rw [hq];simp only [Option.map_some];rw [← hv]
  rfl
 have ew:w'=setBlock w b (.map es clock):=by
  have:(Instr.mapUpdate t (.map (some b)) (K.val j) (f ((dN l j).getD z0))).run P w= .ok () (setBlock w b (.map es clock)):=by
   simp only [Instr.mapUpdate];simp [run_underlying ht,MapKept.run_getObj_map hb,hck,h1,hq,h3,hK.1.stays w hj,MapKept.run_setObj_map _ hb,Result.andThen,setBlock,hmod2,hmod3]
  rw [hr'] at this;cases this;rfl
 refine ⟨w',(e0.born:Int),?_,?_⟩
 ·rw [ew,← hv];simp only [Instr.mapEntry];simp [run_underlying ht,MapKept.run_getObj_map hb,hck,h1,hq,h3,hK.1.stays w hj,MapKept.run_setObj_map _ hb,Result.andThen,setBlock,goInt,hmod]
 refine Sep.inst2 H' hilt λown ok h=>⟨h,⟨hok,hn1⟩,es,clock,q,?_,Rz F.stamped hq,by rw [hq];simp [h3]⟩
 rw [ew];exact heap_setBlock_same hb _
theorem Sep.entSt (H:Sep w os rs) {i:Nat} {j:κ} {z0:α} {s:Int} (hi:os[i]? =some (Pz P k K (Kd.scalar f hf) b l j z0 s)) (hK:E4 P k K) (ht:P.underlying t=some (.map k e)) {v:α} :
  ∃ w',(Instr.entryStore t (.map (some b)) (.int .i64 s) (f v)).run P w= .ok () w'/\Sep w' (os.set i (bW P k K (Kd.scalar f hf) false b (lX l j v))) rs:=by
 have hil:=(List.getElem?_eq_some_iff.1 hi).1;have H1:Sep w (os.set i (bW P k K (Kd.scalar f hf) false b (lX l j ((dN l j).getD z0)))) rs:=by
  have:Sep w (os.set i (Pz P k K (Kd.scalar f hf) b l j z0 s)) rs:=by
   have e2:os.set i (Pz P k K (Kd.scalar f hf) b l j z0 s)=os:=by
    apply List.ext_getElem?;intro q;by_cases e:i=q
    ·subst e;rw [List.getElem?_set_self hil,hi]
    rw [List.getElem?_set_ne e]
   rw [e2];exact H
  exact this.inst2 hil λown ok h=>h.1
 obtain ⟨own,ok,hp,⟨hok,hn1⟩,es,clock,q,hb,hfi,jD⟩:=H.ob i hi;have hj:=hK.2 j hok;have hp2:(bW P k K (Kd.scalar f hf) false b (lX l j ((dN l j).getD z0))).p w own ok:=hp;obtain ⟨es',clock',D,nn,hb',F,hown⟩:=ev hp2;obtain ⟨rfl,rfl⟩:es'=es/\clock'=clock:=by rw [hb] at hb';cases hb';exact ⟨rfl,rfl⟩
 have hck:∀ em,(Instr.checkKey em 10000 k (K.val j)).run P w= .ok () w:=λem=>hK.1.check w em hj;cases hq:es'[q]? with
 | none=>rw [hq] at jD;cases jD
 | some e0=>
  rw [hq] at jD;simp only [Option.map_some,Option.some.injEq] at jD;rcases hK.1.find w hj es'.toList (λx hx=>by obtain ⟨y,hy⟩:=F.reads x hx;exact ⟨_,WideElems.rd_key hy⟩) with ⟨h1,h2⟩ | ⟨q',e1,h1,h2,h3⟩
  ·exact absurd jD (h2 e0 (by rw [Array.mem_toList_iff];exact Array.mem_of_getElem? hq))
  have hq':es'[q']? =some e1:=by simpa using h2
  have hqq:q'=q:=by
   have hnd:=F.stamped.2.2;obtain ⟨a1,a2⟩:=Array.getElem?_eq_some_iff.1 hq;obtain ⟨b1,b2⟩:=Array.getElem?_eq_some_iff.1 hq';refine (List.getElem_inj (xs:=es'.toList.map MapEntry.key) (i:=q') (j:=q) (h₀:=by simpa using b1) (h₁:=by simpa using a1) hnd).1 ?_;simp [a2,b2,jD,h3]
  subst hqq;rw [hq] at hq';cases hq';have hmod:es'.modify q' (λe'=>{ e' with key:=K.val j,val:=f v })=es'.modify q' (λe'=>{ e' with val:=f v }):=by
   apply Array.ext_getElem?;intro z;rw [Array.getElem?_modify,Array.getElem?_modify];split
   ·rename_i hz;subst hz;rw [hq];simp only [Option.map_some];rw [← h3]
   rfl
  have hlt:(lX l j ((dN l j).getD z0)).length < maxLen:=by rw [C9];split <;> omega
  obtain ⟨w',hr,H2⟩:=H1.mapPutL (t:=t) (x:=v) (cs:=[f v]) (List.getElem?_set_self hil) hK.1 ht hok hj (λ_ _=>rfl) hlt;have hr:(Instr.mapUpdate t (.map (some b)) (K.val j) (f v)).run P w= .ok () w':=hr;have hr2:(Instr.mapUpdate t (.map (some b)) (K.val j) (f v)).run P w= .ok () (setBlock w b (.map (es'.modify q' (λe'=>{ e' with val:=f v })) clock')):=by
   simp only [Instr.mapUpdate];simp [run_underlying ht,MapKept.run_getObj_map hb,hck,h1,hq,h3,hK.1.stays w hj,MapKept.run_setObj_map _ hb,Result.andThen,setBlock,hmod]
  rw [hr] at hr2;cases hr2;rw [List.set_set,IJ] at H2;refine ⟨_,?_,H2⟩;simp only [Instr.entryStore];simp [MapKept.run_getObj_map hb,hfi,asInt,asIntOf,MapKept.run_setObj_map _ hb,Result.andThen,setBlock]
end
section
variable {κ α:Type} [DecidableEq κ] {P:Program} {ops:Array Oper} {Q:Exit->Act->WD->Prop} {rest:List Oper} {o:Oper} {w:WD} {a:Act} {n:Nat} {env:List (Nat×VL)} {os:List Ob} {rs:List Rp} {k e t:TI} {K:Ky κ} {b:Nat} {l:List (κ×α)} {f:α->VL} {hf:∀ x,(f x).oneCell'=true}
theorem Pg(E:Env n a env)(H:Sep w os rs)(hw:Region.wanted o (yielded ops a.tmps)=true){dd:Nat}(hd:o.dst=some dd)(hdn:Nat.ble (dd+1) n=true){x y:Operand}{i:Nat}{j:κ}(ho:o.op= .mapEntry t x y)(hx:opv env x=some (.map (some b)))(hy:opv env y=some (K.val j))(hi:os[i]? =some (bW P k K (Kd.scalar f hf) false b l))
  (hK:E4 P k K) (ht:P.underlying t=some (.map k e)) {z0:α} (hz:(P.info? e).bind (·.zero)=some (f z0)) (hc:K.ok j=true/\l.length+1 < maxLen)
  (Kn:∀ s w' a',Sep w' (os.set i (Pz P k K (Kd.scalar f hf) b l j z0 s)) rs->Env n a' ((dd,.tuple #[f ((dN l j).getD z0),.int .i64 s])::env)->wpList P ops Q rest a' w'):wpList P ops Q (o::rest) a w:=by
 obtain ⟨w',s,hr,H'⟩:=H.mapEnt hi hK ht hz hc;refine eS E hw hd hdn (v:=_) (w':=w') ?_ λa' E'=>Kn s w' a' H' E';simp only [execOp,ho,E.eval hx,E.eval hy];simp [Sem.run_bind,hr,Result.andThen]
theorem Jw(E:Env n a env)(H:Sep w os rs)(hw:Region.wanted o (yielded ops a.tmps)=true)(hd:o.dst=none){x y z:Operand}{i:Nat}{j:κ}{z0 v:α}{s:Int}(ho:o.op= .entryStore t x y z)(hx:opv env x=some (.map (some b)))(hy:opv env y=some (.int .i64 s))(hz:opv env z=some (f v))
  (hi:os[i]? =some (Pz P k K (Kd.scalar f hf) b l j z0 s)) (hK:E4 P k K) (ht:P.underlying t=some (.map k e))
  (Kn:∀ w',Sep w' (os.set i (bW P k K (Kd.scalar f hf) false b (lX l j v))) rs->wpList P ops Q rest a w'):wpList P ops Q (o::rest) a w:=by
 obtain ⟨w',hr,H'⟩:=H.entSt (v:=v) hi hK ht;refine Bo E hw hd (w':=w') ?_ (Kn w' H');simp only [execOp,ho,E.eval hx,E.eval hy,E.eval hz];simp [Sem.run_bind,hr]
/-- what is looked up while an entry of that key is made, is what it was. -/
theorem IK(E:Env n a env)(H:Sep w os rs){x y:Operand}{i:Nat}{j:κ}{z0:α}{s:Int}(ho:o.op= .lookup t x y false)(hx:opv env x=some (.map (some b)))(hy:opv env y=some (K.val j))(hi:os[i]? =some (Pz P k K (Kd.scalar f hf) b l j z0 s))
  (hK:E4 P k K) (ht:P.underlying t=some (.map k e)) (hz:(P.info? e).bind (·.zero)=some (f z0)) {u:Option α} (hu:mlk K l j=some u):(execOp a.eval o).run P w= .ok (.value (f (u.getD z0))) w:=by
 obtain ⟨hok,rfl⟩:=Ec hu;obtain ⟨own,ok,h,_⟩:=H.ob i hi;obtain ⟨cs,hr,hcs⟩:=Ad (zc:=[f z0]) false h hK.1 ht hz rfl hok (hK.2 j hok);have hcs':cs= [f ((dN (lX l j ((dN l j).getD z0)) j).getD z0)]:=hcs;subst hcs';rw [uW] at hr;simp only [execOp,ho,E.eval hx,E.eval hy];simp [Sem.run_bind,hr,Result.andThen,vOf]
end
end Go.Cb

namespace Go.Cb
open Go.RowKit
/-- j hangs on i. -/
inductive Anc (ops:Array Oper):Nat->Nat->Prop
 | one {j i:Nat} {y:Oper} {e:Edge} (h:ops[j]? =some y) (he:e ∈ y.after) (hb:Region.binds .any e=true) (hi:e.on=i):Anc ops j i
 | more {j k i:Nat} {y:Oper} {e:Edge} (h:ops[j]? =some y) (he:e ∈ y.after) (hb:Region.binds .any e=true) (hk:e.on=k) (r:Anc ops k i):Anc ops j i
/-- what is listed has all listed that it hangs on. -/
def Cl(ops:Array Oper)(listed:Array Bool):Prop:=∀ j y,listed.getD j false=true->ops[j]? =some y->∀ e ∈ y.after,Region.binds .any e=true->listed.getD e.on false=true
theorem Cl.anc {ops:Array Oper} {listed:Array Bool} (C:Cl ops listed) {j i:Nat} (h:Anc ops j i):listed.getD j false=true->listed.getD i false=true:=by
 induction h with
 | one h he hb hi=>intro hl;subst hi;exact C _ _ hl h _ he hb
 | more h he hb hk r ih=>intro hl;subst hk;exact ih (C _ _ hl h _ he hb)
theorem Cl.list {ops:Array Oper} {listed:Array Bool} (C:Cl ops listed) {j:Nat} (hj:j ∈ Region.ready .any ops listed):Cl ops (listed.setIfInBounds j true):=by
 intro k y hk hy e he hb;obtain ⟨_,z,hz,hall⟩:=mem_ready.1 hj;by_cases hjk:j=k
 ·subst hjk;rw [hz] at hy;cases hy;exact getD_set_true (hall e he hb)
 rw [getD_set_ne false hjk] at hk;exact getD_set_true (C k y hk hy e he hb)
section
variable {P:Program} {ops:Array Oper} {Q:Exit->Act->WD->Prop} {I:WD->Prop} {T:Nat->Bool}
theorem We{i:Nat}{x:Oper}{v:VL}(hi:ops[i]? =some x)(hsel:∀ (j:Nat) (o:Oper) cs b,ops[j]? =some o->o.op ≠ .select cs b)(hQ:∀ c a w,Q (.panic c) a w->False)(hT:∀ j,j < ops.size->T j=true->Anc ops j i)(hTi:T i=false) :
  ∀ (m:Nat) (listed:Array Bool) (a:Act) (w:WD),Cl ops listed->
   (∀ j y,ops[j]? =some y->j ≠ i->listed.getD j true=false->(∀ e ∈ y.after,Region.binds .any e=true->e.on ≠ i)->x.apart ops y=true)->
   i ∈ Region.ready .any ops listed->I w->Yl P I ops x v a->Ak P I T ops Q m (listed.setIfInBounds i true) (a.put x.dst v) w->Ak P I T ops Q (m+1) listed a w:=by
 intro m
 induction m with
 | zero=>
  intro listed a w C _ hr hI hy H;refine ⟨λh=>(by rw [h] at hr;cases hr),λj hj=>?_⟩;by_cases hji:j=i
  ·subst hji;exact hy.wpOp hi hI ⟨.inr hI,H⟩
  have:=ready_mono hj hji;rw [H.1] at this;cases this
 | succ m ih=>
  intro listed a w C hfree hr hI hy H;refine ⟨λh=>(by rw [h] at hr;cases hr),λj hj=>?_⟩;by_cases hji:j=i
  ·subst hji;exact hy.wpOp hi hI ⟨.inr hI,H⟩
  obtain ⟨hjun,y,hoj,hall⟩:=mem_ready.1 hj;have hun:¬ listed.getD i false=true:=λh1=>by
   have h0:=(mem_ready.1 hr).1;rcases Nat.lt_or_ge i listed.size with h' | h'
   ·simp [h'] at h0 h1;rw [h0] at h1;cases h1
   simp [Array.getElem?_eq_none h'] at h1
  have hnot:∀ e ∈ y.after,Region.binds .any e=true->e.on ≠ i:=λe he hb heq=>hun (by rw [← heq];exact hall e he hb);have hTj:T j=false:=by
   cases hq:T j with
   | false=>rfl
   | true=>
    exfalso;refine hun ?_;cases hT j (Array.getElem?_eq_some_iff.1 hoj).1 hq with
    | one h he hb hi=>rw [hoj] at h;cases h;rw [← hi];exact hall _ he hb
    | more h he hb hk r=>rw [hoj] at h;cases h;refine C.anc r ?_;rw [← hk];exact hall _ he hb
  have h2:=Vb hoj (hfree j y hoj hji hjun hnot) (λcs b=>hsel i x cs b hi) (λcs b=>hsel j y cs b hoj) hQ hy (H.2 j (ready_mono hj hji));have hfree':∀ k z,ops[k]? =some z->k ≠ i->(listed.setIfInBounds j true).getD k true=false->(∀ e ∈ z.after,Region.binds .any e=true->e.on ≠ i)->x.apart ops z=true:=λk z hk hki hun hno=>by
   refine hfree k z hk hki ?_ hno;by_cases hjk:j=k
   ·subst hjk;exact hjun
   rw [getD_set_ne true hjk] at hun;exact hun
  refine wpOp_mono (λa' w' h3=>⟨h3.1,ih (listed.setIfInBounds j true) a' w' (C.list hj) hfree' (ready_mono hr (Ne.symm hji)) (h3.1.resolve_left (by rw [hTj];exact Bool.false_ne_true)) h3.2.1 ?_⟩) h2;rw [Array.setIfInBounds_comm _ _ hji];exact h3.2.2
/-- the ancestors, reckoned. -/
def DE(ops:Array Oper)(i:Nat):Nat->Nat->Bool
 | 0,_=>false
 | n+1,j=>match ops[j]? with
  | some y=>y.after.any λe=>Region.binds .any e && (e.on == i || DE ops i n e.on)
  | none=>false
theorem Xy{ops:Array Oper}{i:Nat}:∀ (n j:Nat),DE ops i n j=true->Anc ops j i
 | n+1,j,h=>by
  unfold DE at h;split at h
  ·rename_i y hy;obtain ⟨e,he,hb⟩:=Array.any_eq_true'.1 h;simp only [Bool.and_eq_true,Bool.or_eq_true,beq_iff_eq] at hb;rcases hb.2 with h1 | h1
   ·exact .one hy he hb.1 h1
   exact .more hy he hb.1 rfl (Xy n _ h1)
  cases h
def BP(ops:Array Oper)(ord:List (Nat×Nat)):Bool:=
 ord.all λp=>p.2 != 0 || (!Hc ord p.1 && (List.range ops.size).all λj=>!Hc ord j || DE ops p.1 ops.size j)
def Nq(ops:Array Oper)(ord:List (Nat×Nat)):Bool:=
 Region.noSelect ops && N9 ops ord (Array.replicate ops.size false) && Nat.beq ord.length ops.size && zO ord && BP ops ord && ord.all λp=>Nat.ble p.2 2
theorem Fj(hs:Region.noSelect ops=true)(hQ:∀ c a w,Q (.panic c) a w->False):∀ (l:List (Nat×Nat)) (listed:Array Bool) (a:Act) (w:WD),Cl ops listed->
  (∀ i k,(i,k) ∈ l->(k=0->T i=false/\∀ j,j < ops.size->T j=true->Anc ops j i)/\(k ≥ 2->T i=true))->((∃ i,(i,0) ∈ l)->I w)->zO l=true->(∀ i k,(i,k) ∈ l->k <= 2)->
  N9 ops l listed=true->oN P I ops Q l a w->Ak P I T ops Q l.length listed a w
 | [],listed,a,w,_,_,_,_,_,ho,h=>⟨by simpa [N9] using ho,h⟩
 | (i,0)::l,listed,a,w,C,hT,hI,hl,hk,ho,h=>by
  simp only [N9,Bool.and_eq_true] at ho;obtain ⟨⟨hr,hf⟩,ho⟩:=ho;obtain ⟨o,hi,v,hy,h⟩:=h;simp only [zO,Bool.and_eq_true] at hl;have hIw:=hI ⟨i,.head _⟩;have hr':i ∈ Region.ready .any ops listed:=by simpa using hr
  obtain ⟨hTi,hTe⟩:=(hT i 0 (.head _)).1 rfl;exact We hi (Region.noSelect_spec hs) hQ hTe hTi l.length listed a w C (λj y hj hne hun hno=>Region.free_spec hi hf j y hj hne hun hno) hr' hIw hy
   (Fj hs hQ l _ _ w (C.list hr') (λi k hm=>hT i k (.tail _ hm)) (λ_=>hIw) hl.1 (λi k hm=>hk i k (.tail _ hm)) ho h)
 | (i,1)::l,listed,a,w,C,hT,hI,hl,hk,ho,h=>by
  simp only [N9,Bool.and_eq_true,beq_iff_eq] at ho;obtain ⟨hr,ho⟩:=ho;obtain ⟨o,hi,h⟩:=h;simp only [zO,Bool.and_eq_true] at hl;refine ⟨λh0=>(by rw [hr] at h0;cases h0),λj hj=>?_⟩;have hj':=hj;rw [hr] at hj;simp at hj;subst hj;exact wpOp_mono (λa' w' h'=>⟨.inr h'.1,Fj hs hQ l _ _ _ (C.list hj') (λi k hm=>hT i k (.tail _ hm)) (λ_=>h'.1) hl.1 (λi k hm=>hk i k (.tail _ hm)) ho h'.2⟩) (wZ hi h)
 | (i,k+2)::l,listed,a,w,C,hT,hI,hl,hk,ho,h=>by
  simp only [N9,Bool.and_eq_true,beq_iff_eq] at ho;obtain ⟨hr,ho⟩:=ho;obtain ⟨o,hi,h⟩:=h;simp only [zO,Bool.and_eq_true] at hl;have hk0:k=0:=by have:=hk i (k+2) (.head _);omega
  subst hk0;have hno:¬ ∃ i,(i,0) ∈ l:=by
   rintro ⟨q,hq⟩;have:=hl.2;simp at this;have:=this q 0 hq;omega
  refine ⟨λh0=>(by rw [hr] at h0;cases h0),λj hj=>?_⟩;have hj':=hj;rw [hr] at hj;simp at hj;subst hj;exact wpOp_mono (λa' w' h'=>⟨.inl ((hT _ _ (.head _)).2 (by omega)),Fj hs hQ l _ _ _ (C.list hj') (λi k hm=>hT i k (.tail _ hm)) (λhx=>(hno hx).elim) hl.1 (λi k hm=>hk i k (.tail _ hm)) ho h'⟩) (wZ hi h)
theorem IL{id:Nat}{a:Act}{w:WD}(I:WD->Prop)(ord:List (Nat×Nat))(hm:P.follows .mixedOrders=true)(ho:Nq ops ord=true)
  (hQ:∀ c a w,Q (.panic c) a w->False) (hI:I { w with drawn:=w.drawn+1 }) (h:oN P I ops Q ord a { w with drawn:=w.drawn+1 }):(Code.region id ops true).wp P Q a w:=by
 simp only [Nq,Bool.and_eq_true] at ho;obtain ⟨⟨⟨⟨⟨h1,h2⟩,h3⟩,h4⟩,h5⟩,h6⟩:=ho;have hlen:ord.length=ops.size:=Nat.eq_of_beq_eq_true h3;have C0:Cl ops (Array.replicate ops.size false):=λj y hj=>by
  rw [Array.getD_eq_getD_getElem?,Array.getElem?_replicate] at hj;split at hj <;> cases hj
 refine wp_region_any hm (hlen ▸ Do (T:=Hc ord) (I:=I) _ _ _ _ (Fj h1 hQ ord _ a _ (hlen.symm ▸ C0) (λi k hmem=>?_) (λ_=>hI) h4 (λi k hmem=>?_) (hlen.symm ▸ h2) h))
 ·refine ⟨λhk=>?_,λhk=>?_⟩
  ·subst hk;simp only [BP,List.all_eq_true] at h5;have:=h5 _ hmem;simp only [bne_self_eq_false,Bool.false_or,Bool.and_eq_true,Bool.not_eq_true',List.all_eq_true,List.mem_range] at this;refine ⟨this.1,λj hj hTj=>?_⟩;have hq:=this.2 j hj;rw [hTj] at hq;simp only [Bool.not_true,Bool.false_or] at hq;exact Xy _ _ hq
  have h7:k <= 2:=by
   have:=List.all_eq_true.1 h6 _ hmem;exact Nat.le_of_ble_eq_true this
  have hk2:k=2:=by omega
  subst hk2;exact List.any_eq_true.2 ⟨_,hmem,by simp⟩
 have:=List.all_eq_true.1 h6 _ hmem;exact Nat.le_of_ble_eq_true this
variable {w:WD} {a:Act} {os:List Ob} {rs:List Rp}
theorem PX{id:Nat}(hm:P.follows .mixedOrders=true)(ord:List (Nat×Nat))(is js:List Nat)(H:Sep w os rs)(ho:Nq ops ord=true)(hQ:∀ c a w,Q (.panic c) a w->False)
  (k:∀ w W0,dL (pkl os is) (pkl rs js) W0->Sep w os rs->oN P (dL (pkl os is) (pkl rs js)) ops Q ord a w):(Code.region id ops true).wp P Q a w:=
 have hI:dL (pkl os is) (pkl rs js) { w with drawn:=w.drawn+1 }:=⟨_,_,H.kept (Kp.drawn _ w _),Dw is,Dw js⟩
 IL _ ord hm ho hQ hI (k _ _ hI (H.kept (Kp.drawn _ w _)))
end
end Go.Cb

namespace Go.Cb
open Go.RowKit
/-- a lookup's datum (or the zero), and whether it is there. -/
def U7{κ α:Type} [DecidableEq κ] (K:Ky κ) (l:List (κ×α)) (j:κ) (z:α):Option (α×Bool):=(mlk K l j).map λu=>(u.getD z,u.isSome)
def Wr{κ α:Type} [DecidableEq κ] (K:Ky κ) (l:List (κ×α)) (j:κ) (z:α):Option α:=(mlk K l j).map λu=>u.getD z
section
variable {κ α:Type} [DecidableEq κ] {P:Program} {ops:Array Oper} {Q:Exit->Act->WD->Prop} {rest:List Oper} {o:Oper} {w:WD} {a:Act} {n:Nat} {env:List (Nat×VL)} {os:List Ob} {rs:List Rp} {k e t:TI} {K:Ky κ} {d:Kd α} {b:Nat} {l:List (κ×α)}
theorem tW(E:Env n a env)(H:Sep w os rs)(hw:Region.wanted o (yielded ops a.tmps)=true){dd:Nat}(hd:o.dst=some dd)(hdn:Nat.ble (dd+1) n=true){x y:Operand}{i:Nat}{j:κ}(ho:o.op= .lookup t x y true)(hx:opv env x=some (.map (some b)))(hy:opv env y=some (K.val j))(hi:os[i]? =some (bW P k K d true b l))
  (hK:E4 P k K) (ht:P.underlying t=some (.map k e)) {z0:α} {zc:List VL} (hz:(P.info? e).bind (·.zero)=some (.agg zc.toArray)) (hR:∀ (w:WD) ok,d.R w ok z0 zc) {u:α×Bool} (hu:U7 K l j z0=some u)
  (Kn:∀ cs a',Sep w os (rCs d cs u.1::rs)->Env n a' ((dd,.tuple #[.agg cs.toArray,.bool u.2])::env)->wpList P ops Q rest a' w):wpList P ops Q (o::rest) a w:=by
 unfold U7 at hu;obtain ⟨v,hv,rfl⟩:=Option.map_eq_some_iff.1 hu;exact IE E H hw hd hdn ho hx hy hi hK ht hz hR hv Kn
theorem FN(E:Env n a env)(H:Sep w os rs)(hw:Region.wanted o (yielded ops a.tmps)=true){dd:Nat}(hd:o.dst=some dd)(hdn:Nat.ble (dd+1) n=true){x y:Operand}{i:Nat}{j:κ}(ho:o.op= .lookup t x y false)(hx:opv env x=some (.map (some b)))(hy:opv env y=some (K.val j))(hi:os[i]? =some (bW P k K d true b l))
  (hK:E4 P k K) (ht:P.underlying t=some (.map k e)) {z0:α} {zc:List VL} (hz:(P.info? e).bind (·.zero)=some (.agg zc.toArray)) (hR:∀ (w:WD) ok,d.R w ok z0 zc) {u:α} (hu:Wr K l j z0=some u)
  (Kn:∀ cs a',Sep w os (rCs d cs u::rs)->Env n a' ((dd,.agg cs.toArray)::env)->wpList P ops Q rest a' w):wpList P ops Q (o::rest) a w:=by
 unfold Wr at hu;obtain ⟨v,hv,rfl⟩:=Option.map_eq_some_iff.1 hu;exact FJ E H hw hd hdn ho hx hy hi hK ht hz hR hv Kn
end
section
variable {w:WD} {rs:List Rp}
/-- some objects less, one behind the other. -/
def drO(os:List Ob):List Nat->List Ob
 | []=>os
 | i::is=>drO (os.eraseIdx i) is
theorem Sep.drs:∀ (is:List Nat) {os:List Ob},Sep w os rs->Sep w (drO os is) rs
 | [],_,H=>H
 | i::is,_,H=>Sep.drs is (H.drop i)
/-- some objects to the front, one behind the other. -/
def frO(os:List Ob):List Nat->Option (List Ob)
 | []=>some os
 | i::is=>match os[i]? with
  | none=>none
  | some o=>frO (o::os.eraseIdx i) is
theorem Sep.frs:∀ (is:List Nat) {os os':List Ob},Sep w os rs->frO os is=some os'->Sep w os' rs
 | [],_,_,H,h=>by cases h;exact H
 | i::is,os,_,H,h=>by
  unfold frO at h;split at h
  ·cases h
  rename_i o ho;exact Sep.frs is (H.front i ho) h
end
end Go.Cb

namespace Go.Cb
open Go.RowKit
theorem Env.to {n:Nat} {a:Act} {env env':List (Nat×VL)} (E:Env n a env) (h:CZ env (env'.map Prod.fst)=some env'):Env n a env':=E.sel _ h
abbrev CF (P:Program) (f:FuncId):Prop:=∀ (w:WD) (args:Array VL),(callFunc f args).run P w= .ok (.enter f args) w
theorem cfo{P:Program}{f:FuncId}{fn:Func}(h:P.funcs[f]? =some fn)(hb:(fn.body.isNone || fn.name == "runtime.NumGoroutine")=false):CF P f:=λ_ args=>by
 rw [Bool.or_eq_false_iff] at hb;exact Aj h hb.1 hb.2 args
section
variable {P:Program} {ops:Array Oper} {Q:Exit->Act->WD->Prop} {rest:List Oper} {o:Oper} {w:WD} {a:Act} {n:Nat} {env:List (Nat×VL)}
/-- a call whose result is told. -/
theorem xk(E:Env n a env)(hg:o.guard=none){d:Nat}(hd:o.dst=some d)(hdn:Nat.ble (d+1) n=true){f:FuncId}{xs:List Operand}{ts:Array TI}{vs:List VL}{u:VL}{S:WD->Prop}(ho:o.op= .call { callee:=.value (.func f),args:=xs.toArray,argTypes:=ts })(hx:Ai env xs=some vs)
  (hcf:CF P f) (hc:Calls P f vs.toArray w (Ret λv w'=>u=v/\S w')) (k:∀ w',S w'->∀ a',Env n a' ((d,u)::env)->wpList P ops Q rest a' w'):wpList P ops Q (o::rest) a w:=
 Pw E hg hd hdn ho hx hcf hc (by rintro _ w' ⟨rfl,h⟩ a' E';exact k w' h a' E')
end
theorem ent{P:Program}{w:WD}{f:FuncId}{fn:Func}{c:Code}{args:List VL}{R:Ending->WD->Prop}{m:Nat}(hf:P.funcs[f]? =some fn)(hb:fn.body=some c)(hn:fn.ntmps=m)(hm:Nat.ble args.length m=true){env:List (Nat×VL)}(he:O9 0 args=env)
  (h:∀ a,Env m a env->c.wp P (bodyPost P fn R) a w):Calls P f args.toArray w R:=by
 subst he;exact enter hf hb hn hm h
section
variable {rs X:List Rp} {a b c d e f g h:Rp}
theorem Y0:∀ r:Rp,r ∈ X->r ∈ X:=λ_ h=>h
theorem Y1(H:∀ r:Rp,r ∈ rs->r ∈ X):∀ r:Rp,r ∈ rs->r ∈ a::X:=λr h=>.tail _ (H r h)
theorem Y2(H:∀ r:Rp,r ∈ rs->r ∈ X):∀ r:Rp,r ∈ rs->r ∈ a::b::X:=Y1 (Y1 H)
theorem Y3(H:∀ r:Rp,r ∈ rs->r ∈ X):∀ r:Rp,r ∈ rs->r ∈ a::b::c::X:=Y1 (Y2 H)
theorem Y4(H:∀ r:Rp,r ∈ rs->r ∈ X):∀ r:Rp,r ∈ rs->r ∈ a::b::c::d::X:=Y1 (Y3 H)
theorem Y5(H:∀ r:Rp,r ∈ rs->r ∈ X):∀ r:Rp,r ∈ rs->r ∈ a::b::c::d::e::X:=Y1 (Y4 H)
theorem Y6(H:∀ r:Rp,r ∈ rs->r ∈ X):∀ r:Rp,r ∈ rs->r ∈ a::b::c::d::e::f::X:=Y1 (Y5 H)
theorem Y7(H:∀ r:Rp,r ∈ rs->r ∈ X):∀ r:Rp,r ∈ rs->r ∈ a::b::c::d::e::f::g::X:=Y1 (Y6 H)
theorem Y8(H:∀ r:Rp,r ∈ rs->r ∈ X):∀ r:Rp,r ∈ rs->r ∈ a::b::c::d::e::f::g::h::X:=Y1 (Y7 H)
end
section
variable {A0 B0 C0 D0 E0 F0 G0 H0 I0 J0 K0 L0 M0 N0 O0 P0 Q0 R0 S0 T0 U0 V0 W0 X0 Y0 Z0 A1 B1 C1 D1:Type} {a:A0} {b:B0} {c:C0} {d:D0} {e:E0} {f:F0} {g:G0} {h:H0} {i:I0} {j:J0} {k:K0} {l:L0} {m:M0} {n:N0} {o:O0} {p:P0} {q:Q0} {r:R0} {s:S0} {t:T0} {u:U0} {v:V0} {w:W0} {x:X0} {y:Y0} {z:Z0} {a1:A1} {b1:B1} {c1:C1} {d1:D1}
theorem X3{F:A0->B0->C0->Prop}(h:F a b c):∃ a b c,F a b c:=⟨_,_,_,h⟩
theorem X4{F:A0->B0->C0->D0->Prop}(h:F a b c d):∃ a b c d,F a b c d:=⟨_,_,_,_,h⟩
theorem X5{F:A0->B0->C0->D0->E0->Prop}(h:F a b c d e):∃ a b c d e,F a b c d e:=⟨_,_,_,_,_,h⟩
theorem X6{F:A0->B0->C0->D0->E0->F0->Prop}(h:F a b c d e f):∃ a b c d e f,F a b c d e f:=⟨_,_,_,_,_,_,h⟩
theorem X7{F:A0->B0->C0->D0->E0->F0->G0->Prop}(h:F a b c d e f g):∃ a b c d e f g,F a b c d e f g:=⟨_,_,_,_,_,_,_,h⟩
theorem X8{F:A0->B0->C0->D0->E0->F0->G0->H0->Prop}(h:F a b c d e f g h):∃ a b c d e f g h,F a b c d e f g h:=⟨_,_,_,_,_,_,_,_,h⟩
theorem X9{F:A0->B0->C0->D0->E0->F0->G0->H0->I0->Prop}(h:F a b c d e f g h i):∃ a b c d e f g h i,F a b c d e f g h i:=⟨_,_,_,_,_,_,_,_,_,h⟩
theorem X10{F:A0->B0->C0->D0->E0->F0->G0->H0->I0->J0->Prop}(h:F a b c d e f g h i j):∃ a b c d e f g h i j,F a b c d e f g h i j:=⟨_,_,_,_,_,_,_,_,_,_,h⟩
theorem X11{F:A0->B0->C0->D0->E0->F0->G0->H0->I0->J0->K0->Prop}(h:F a b c d e f g h i j k):∃ a b c d e f g h i j k,F a b c d e f g h i j k:=⟨_,_,_,_,_,_,_,_,_,_,_,h⟩
theorem X12{F:A0->B0->C0->D0->E0->F0->G0->H0->I0->J0->K0->L0->Prop}(h:F a b c d e f g h i j k l):∃ a b c d e f g h i j k l,F a b c d e f g h i j k l:=⟨_,_,_,_,_,_,_,_,_,_,_,_,h⟩
theorem X16{F:A0->B0->C0->D0->E0->F0->G0->H0->I0->J0->K0->L0->M0->N0->O0->P0->Prop}(h:F a b c d e f g h i j k l m n o p):∃ a b c d e f g h i j k l m n o p,F a b c d e f g h i j k l m n o p:=⟨_,_,_,_,_,_,_,_,_,_,_,_,_,_,_,_,h⟩
theorem X17{F:A0->B0->C0->D0->E0->F0->G0->H0->I0->J0->K0->L0->M0->N0->O0->P0->Q0->Prop}(h:F a b c d e f g h i j k l m n o p q):∃ a b c d e f g h i j k l m n o p q,F a b c d e f g h i j k l m n o p q:=⟨_,_,_,_,_,_,_,_,_,_,_,_,_,_,_,_,_,h⟩
theorem X19{F:A0->B0->C0->D0->E0->F0->G0->H0->I0->J0->K0->L0->M0->N0->O0->P0->Q0->R0->S0->Prop}(h:F a b c d e f g h i j k l m n o p q r s):∃ a b c d e f g h i j k l m n o p q r s,F a b c d e f g h i j k l m n o p q r s:=⟨_,_,_,_,_,_,_,_,_,_,_,_,_,_,_,_,_,_,_,h⟩
theorem X22{F:A0->B0->C0->D0->E0->F0->G0->H0->I0->J0->K0->L0->M0->N0->O0->P0->Q0->R0->S0->T0->U0->V0->Prop}(h:F a b c d e f g h i j k l m n o p q r s t u v):∃ a b c d e f g h i j k l m n o p q r s t u v,F a b c d e f g h i j k l m n o p q r s t u v:=⟨_,_,_,_,_,_,_,_,_,_,_,_,_,_,_,_,_,_,_,_,_,_,h⟩
end
end Go.Cb

namespace Go.Cb
open Go.RowKit
theorem IM{P:Program}{k:TI}(hK:Maps.Keyed P k){f0 f1:Field}(hk:P.underlying k=some (.struct #[f0,f1]))(h0:P.underlying f0.type=some (.int .i64))(h1:P.underlying f1.type=some (.int .i64))
  (hn:(f0.name != "_" && f1.name != "_")=true) (hc:P.cellsOf k=2/\P.cellsOf f0.type=1/\P.cellsOf f1.type=1/\f0.offset=0/\f1.offset=1) (ht:P.keyType k=true) (hs:Nat.ble 1 P.types.size=true):E4 P k U6:=by
 refine ⟨hK,λj h=>?_⟩;obtain ⟨a,b⟩:=j;obtain ⟨m,hs⟩:=Nat.exists_eq_succ_of_ne_zero (Nat.ne_of_gt (Nat.le_of_ble_eq_true hs));obtain ⟨c0,c1,c2,o1,o2⟩:=hc;simp only [U6,Bool.and_eq_true] at h hn;have e1:P.keyLits (m+1) f0.type [.int .i64 a]=some [.int .i64 a]:=by simp [Program.keyLits,h0,h.1]
 have e2:P.keyLits (m+1) f1.type [.int .i64 b]=some [.int .i64 b]:=by simp [Program.keyLits,h1,h.2]
 have e3:P.keyLits (P.types.size+1) k [.int .i64 a,.int .i64 b]=some [.int .i64 a,.int .i64 b]:=by
  rw [hs];unfold Program.keyLits;simp [hk,c0,hn.1,hn.2,List.mapM_cons,o1,o2,c1,c2,e1,e2]
 have e4:Value.formed P k (.agg #[.int .i64 a,.int .i64 b])=true:=by simp [Value.formed,hk,c0]
 show keyOf P k (.agg #[.int .i64 a,.int .i64 b])=some (.string (keyBytes [.int .i64 a,.int .i64 b]));simp [keyOf,hk,ht,e4,Value.cells,e3]
end Go.Cb

set_option maxHeartbeats 4000000
namespace Go.Cb
open Go.Proofs Go.RowKit
structure El (P:Program) (ρ:Shelf.Ren) (T:TI) (z:Nat) (zs:List VL) (bt:Nat):Prop where
 hS:P.underlying (ρ.t 24)=some (.slice T)
 hI:P.underlying (ρ.t 3)=some (.int .i64)
 sz:(P.info? T).map (·.size)=some z
 zr:(P.info? T).bind (·.zero)=some (.agg zs.toArray)
 inf:(P.info? T).map (λi=>(i.zero,i.size,i.bytes))=some (some (.agg zs.toArray),z,bt)
 mix:P.follows .mixedOrders=true
 zc:(Builtin.zeroCells (Value.agg zs.toArray).cells 1).toList=zs
 zl:zs.length=z
 one:zs.all (·.oneCell')=true
 bl:Nat.ble bt 512=true
 pos:0 < z
theorem El.zs0 {P:Program} {ρ:Shelf.Ren} {T:TI} {z bt:Nat} {zs:List VL} (EL:El P ρ T z zs bt):(Value.agg zs.toArray).cells.size=z:=by
 show zs.toArray.size=z;rw [List.size_toArray];exact EL.zl
variable {α:Type} {d:Kd α} {P:Program} {ρ:Shelf.Ren} {T:TI} {z bt:Nat} {zs:List VL}
theorem Ua(F:iF d)(x:α):∀ u ∈ F.enc x,u.oneCell'=true:=d.one (F.mk' (w:=default) (ok:=λ_=>True))
theorem encs_one(F:iF d)(xs:List α):∀ u ∈ F.encs xs,u.oneCell'=true:=by
 intro u hu;obtain ⟨x,_,hx⟩:=List.mem_flatMap.1 hu;exact Ua F x u hx
theorem Qa(F:iF d)(EL:El P ρ T z zs bt)(hsz:d.sz=z){fid:FuncId}{fn:Func}(hf:P.funcs[fid]? =some fn)(hbd:fn.body=(Body2.n24 ρ).body)(hm:fn.ntmps=33)(hr:fn.results= #[.tmp 6]){w:WD}{os:List Ob}{rs:List Rp}{ix:Nat}{v:VL}{xs:List α}(H:Sep w os rs)(hi:os[ix]? =some (Row T d v xs)){a b:Int}(hab:0 <= a/\a < xs.length/\b=a+1) :
  Calls P fid [v,.int .i64 a,.int .i64 b].toArray w (Ret λv' w'=>Sep w' (os.set ix (Row T d v' (xs.eraseIdx a.toNat))) rs):=by
 obtain ⟨h0,hlt,rfl⟩:=hab;obtain ⟨j,rfl⟩:∃ j:Nat,a=(j:Int):=⟨a.toNat,by omega⟩
 have hj:j < xs.length:=by omega
 have hix:idx xs (j:Int)=some xs[j]:=by unfold idx;rw [iP (by omega)];simp [hj]
 obtain ⟨g,c,rfl⟩:=H.rowformNE hi hix;have hil:ix < os.length:=(List.getElem?_eq_some_iff.1 hi).1;obtain ⟨cs,H1,hn,hnc,hcm,hcl,hct⟩:=H.rowBlk F hi;clear H;obtain ⟨n,hnn⟩:∃ n,n=xs.length:=⟨_,rfl⟩
 rw [← hnn] at hj hnc hct hn ⊢;rw [hsz] at hcl hct;have hb:(os.set ix (Blk g T cs))[ix]? =some (Blk g T cs):=List.getElem?_set_self hil;refine enter hf hbd hm rfl λa E=>?_;simp only [O9,Nat.reduceAdd] at E;have e1:((j:Int)+1)=((j+1:Nat):Int):=by omega
 rw [e1] at E;refine wS ?_;refine wG ?_;refine sv E rfl rfl rfl (gD E rfl rfl) ?_;clear a E;intro a E;refine wN ?_;refine aA ?_;refine wS ?_;refine wG ?_;refine sv E rfl rfl rfl (cB E rfl rfl) ?_;clear a E;intro a E;refine sv E rfl rfl rfl (cB E rfl rfl) ?_;clear a E;intro a E;refine sv E rfl rfl rfl (cB E rfl rfl) ?_;clear a E;intro a E;refine sv E rfl rfl rfl (cB E rfl rfl) ?_;clear a E;intro a E;refine sv E rfl rfl rfl (P3 E rfl rfl EL.hS) ?_;clear a E;intro a E;refine sv E rfl rfl rfl (LX (i:=j) (j:=j+1) (q:=n) E rfl rfl rfl rfl rfl EL.hS EL.sz (by omega) (by omega) hnc) ?_;clear a E;intro a E;refine wN ?_;refine aA ?_;refine wS ?_;refine wS ?_;refine wG ?_;refine sv E rfl rfl rfl (cB E rfl rfl) ?_;clear a E;intro a E;refine sv E rfl rfl rfl (cB E rfl rfl) ?_;clear a E;intro a E;refine sv E rfl rfl rfl (pI E rfl rfl rfl rfl) ?_;clear a E;intro a E;refine wN ?_;refine aA ?_;refine N8 E rfl (λhb=>?_) λ_=>?_
 ·simp at hb;omega
 refine wK ?_;refine aA ?_;refine wS ?_;refine wG ?_;refine sv E rfl rfl rfl (cB E rfl rfl) ?_;clear a E;intro a E;refine sv E rfl rfl rfl (P3 E rfl rfl EL.hS) ?_;clear a E;intro a E;refine sv E rfl rfl rfl (gD E rfl rfl) ?_;clear a E;intro a E;refine wN ?_;refine aA ?_;refine wS ?_;have hI:(λ_:WD=>True) { w with drawn:=w.drawn+1 }:=trivial;refine Nj (λ_:WD=>True) [(0,0),(1,0),(2,0),(3,0),(4,0),(5,0),(6,1),(7,0)] EL.mix (by kernel_rfl) (λ_ _ _ h=>False.elim h.2) hI ?_
 replace H1:=H1.kept (Kp.drawn _ w (w.drawn+1))
 generalize ({ w with drawn:=w.drawn+1 }:WD)=w at H1 ⊢;refine dU E rfl (wn rfl) rfl rfl (λw hW=>cB E rfl rfl) ?_;clear a E;intro a E;refine dU E rfl (wn rfl) rfl rfl (λw hW=>cB E rfl rfl) ?_;clear a E;intro a E;refine dU E rfl (wn rfl) rfl rfl (λw hW=>Xr (i:=j) E rfl rfl rfl EL.hS EL.sz (by omega)) ?_;clear a E;intro a E;refine dU E rfl (wn rfl) rfl rfl (λw hW=>cB E rfl rfl) ?_;clear a E;intro a E;refine dU E rfl (wn rfl) rfl rfl (λw hW=>cB E rfl rfl) ?_;clear a E;intro a E;obtain ⟨q,hq,hq2⟩:∃ q:Addr,(if c=j+1 then (some ⟨g,0,none⟩:Option Addr) else (some (⟨g,0,none⟩:Addr)).map (·.add ((j+1) * z)))=some q/\(c ≠ j+1->q= ⟨g,(j+1) * z,none⟩):=by
  by_cases h:c=j+1
  ·exact ⟨_,by rw [iP h],λh'=>absurd h h'⟩
  exact ⟨_,by rw [iN h];rfl,λ_=>by show (⟨g,0,none⟩:Addr).add _=_;rw [qG];simp⟩
 have hsl:∀ {W:WD} {o:Oper} {a:Act} {env:List (Nat×VL)} (_:Env 33 a env) {x l:Operand},o.op= .slice (ρ.t 24) x (some l) none none->opv env x=some (.slice (some ⟨g,0,none⟩) n c)->opv env l=some (.int .i64 ((j+1:Nat):Int))->(execOp a.eval o).run P W= .ok (.value (.slice (some q) (n - (j+1)) (c - (j+1)))) W:=λ{W o a env} E {x l} ho hx hl=>by
  have:=Ru (P:=P) (w:=W) (i:=j+1) E ho hx hl EL.hS EL.sz (by omega);rw [hq] at this;exact this
 refine dU E rfl (wn rfl) rfl rfl (λw hW=>hsl E rfl rfl rfl) ?_;clear a E;intro a E;refine bO rfl ?_;have hus:(F.encs (xs.drop (j+1))).length=(n - (j+1)) * z:=by rw [F.encs_len,List.length_drop,hsz,hnn]
 refine ID (i:=ix) (us:=F.encs (xs.drop (j+1))) E H1 (wn rfl) rfl rfl rfl rfl rfl EL.hS EL.sz hb (by omega) hus (λk u hk=>?_) (by rw [hus,hcl,← Nat.add_mul];exact Nat.mul_le_mul_right _ (by omega)) (encs_one F _) ?_
 ·have hkl:=(List.getElem?_eq_some_iff.1 hk).1;rw [hus] at hkl;have hc:c ≠ j+1:=by intro e;rw [show n - (j+1)=0 by omega,Nat.zero_mul] at hkl;omega
  rw [hq2 hc,qG];refine H1.blk_cell hb ?_;rw [← F.encs_drop xs (j+1) (by omega),← hct,hsz,List.getElem?_drop,List.getElem?_take] at hk;split at hk
  ·exact hk
  cases hk
 clear E H1;clear a;clear w;intro w a H1 E;refine wN ?_;refine aA ?_;refine ⟨trivial,?_⟩;refine dU E rfl (wn rfl) rfl rfl (λw hW=>gD E rfl rfl) ?_;clear a E;intro a E;refine bF ?_;refine aA ?_;rw [List.set_set] at H1;have hfit:j * z+(F.encs (xs.drop (j+1))).length <= cs.length:=by rw [hus,hcl,← Nat.add_mul];exact Nat.mul_le_mul_right _ (by omega)
 rw [xB _ _ _ hfit] at H1;obtain ⟨cs2,hcs2⟩:∃ cs2,cs2=cs.take (j * z) ++ F.encs (xs.drop (j+1)) ++ cs.drop (j * z+(F.encs (xs.drop (j+1))).length):=⟨_,rfl⟩
 rw [← hcs2] at H1;have hb2:(os.set ix (Blk g T cs2))[ix]? =some (Blk g T cs2):=List.getElem?_set_self hil;have hcl2:cs2.length=c * z:=by rw [hcs2,List.length_append,List.length_append,List.length_take,List.length_drop,hus,hcl];omega
 have hct2:cs2.take ((n - 1) * z)=F.encs (xs.eraseIdx j):=by
  have e0:cs.take (j * z)=F.encs (xs.take j):=by
   rw [← hsz,← F.encs_take xs j (by omega),← hct,hsz,List.take_take];rw [Nat.min_eq_left (Nat.mul_le_mul_right _ (by omega))]
  rw [hcs2,e0,← F.encs_app,← List.eraseIdx_eq_take_drop_succ];have e3:(F.encs (xs.eraseIdx j)).length=(n - 1) * z:=by rw [F.encs_len,List.length_eraseIdx,iP (by omega),hsz,hnn]
  rw [← e3,List.take_append_of_le_length (Nat.le_refl _),List.take_length]
 refine wS ?_;refine wG ?_;refine sv E rfl rfl rfl (cB E rfl rfl) ?_;clear a E;intro a E;refine sv E rfl rfl rfl (cB E rfl rfl) ?_;clear a E;intro a E;refine sv E rfl rfl rfl (P3 E rfl rfl EL.hS) ?_;clear a E;intro a E;refine sv E rfl rfl rfl (cB E rfl rfl) ?_;clear a E;intro a E;refine sv E rfl rfl rfl (PU (i:=j+(n - (j+1))) (j:=n) E rfl rfl rfl rfl EL.hS EL.sz (by omega) hnc) ?_;clear a E;intro a E;have hlen:j+(n - (j+1))=n - 1:=by omega
 have hm1:n - (n - 1)=1:=by omega
 rw [hlen,iN (show c ≠ n - 1 by omega),show Option.map (λx:Addr=>x.add ((n - 1) * z)) (some ⟨g,0,none⟩)=some ⟨g,(n - 1) * z,none⟩ from by show some ((⟨g,0,none⟩:Addr).add _)=_;rw [qG];simp,hm1] at E;have hn1:(n - 1) * z+z <= c * z:=by rw [← Nat.succ_mul];exact Nat.mul_le_mul_right _ (by omega)
 refine FE (i:=ix) (m:=1) (off:=(n - 1) * z) (us:=zs) E H1 (wn rfl) rfl rfl rfl (by decide) EL.hS EL.zr hb2 EL.zc (by rw [hcl2,EL.zl];exact hn1) (λu hu=>List.all_eq_true.1 EL.one u hu) ?_;clear H1;clear w;intro w H1;refine wN ?_;refine aA ?_;refine wS ?_;refine wG ?_;refine sv E rfl rfl rfl (cB E rfl rfl) ?_;clear a E;intro a E;refine sv E rfl rfl rfl (gD E rfl rfl) ?_;clear a E;intro a E;refine wN ?_;refine aA ?_;refine wR ?_;refine Bp E hr rfl ?_;rw [List.set_set] at H1;have hfit3:(n - 1) * z+zs.length <= cs2.length:=by rw [hcl2,EL.zl];exact hn1
 rw [xB _ _ _ hfit3] at H1;have hb3:(os.set ix (Blk g T (cs2.take ((n - 1) * z) ++ zs ++ cs2.drop ((n - 1) * z+zs.length))))[ix]? =some (Blk g T _):=List.getElem?_set_self hil;have H2:=H1.blkRow (xs:=xs.eraseIdx j) (n:=n - 1) (c:=c) F hb3 (by rw [List.length_eraseIdx,iP (by omega),hnn]) (by omega) hcm (by rw [List.length_append,List.length_append,List.length_take,List.length_drop,hcl2,hsz];rw [EL.zl];omega)
  (by rw [hsz,← hct2,List.append_assoc,List.take_append_of_le_length (by rw [List.length_take,hcl2];omega),List.take_take];congr 1;omega)
 rw [List.set_set] at H2;exact H2
theorem Xz(EL:El P ρ T z zs bt){w:WD}{g g2 la ca lb cb off:Nat}{cs cs2:Array VL}(hne:g2 ≠ g)(h1:w.heap[g]? =some (.cells cs T (0,0)))(h2:w.heap[g2]? =some (.cells cs2 T (0,0))) :
  (Extern.SlicesOverlaps.overlaps #[ρ.t 24,ρ.t 24] #[ρ.t 4] #[.slice (some ⟨g2,0,none⟩) la ca,.slice (some ⟨g,off,none⟩) lb cb]).run P w= .ok (.bool false) w:=by
 have hf1:∀ o,w.frozen? ⟨g,o,none⟩=false:=λo=>by simp [World.frozen?,h1]
 have hf2:∀ o,w.frozen? ⟨g2,o,none⟩=false:=λo=>by simp [World.frozen?,h2]
 have e:Extern.SlicesOverlaps.overlaps #[ρ.t 24,ρ.t 24] #[ρ.t 4] #[.slice (some ⟨g2,0,none⟩) la ca,.slice (some ⟨g,off,none⟩) lb cb]=(do
   let .slice elem ← underlying (ρ.t 24) | stuck "slices.overlaps: slice type expected"
   let size ← sizeOf elem
   let a:Addr:=⟨g2,0,none⟩
   let b:Addr:=⟨g,off,none⟩
   if la=0∨lb=0∨size=0 then pure (.bool false)
   else if a.block != b.block && (← frozen a) && (← frozen b) then unsupported .addressObserved
   else do
    if a.block != b.block then do
     noView a;noView b
     if ← mayBeOne a b then return .bool ((← choose (.extern "sameAddr.stringBytes" 2)) == 1)
    pure (.bool (a.block == b.block && a.off < b.off+lb * size && b.off < a.off+la * size))):=rfl
 have hs1:w.shape? g=some (T,cs.size):=by simp [World.shape?,h1]
 have hs2:w.shape? g2=some (T,cs2.size):=by simp [World.shape?,h2]
 rw [e];simp [Sem.run_bind,run_underlying EL.hS,jN EL.sz,hne,frozen,Sem.run,hf1,hf2,noView,viewAt,mayBeOne,stringish,shape,getObj,h1,h2,hs1,hs2]
section
variable {w:WD} {os os':List Ob} {rs:List Rp}
theorem Sep.sub (H:Sep w os rs) (g:Nat->Nat) (h:∀ (i:Nat) (o:Ob),os'[i]? =some o->∃ k,os[k]? =some o/\g k=i):Sep w os' rs:=by
 obtain ⟨col,h1,h2⟩:=H;refine ⟨λb=>if col b=0 then 0 else g (col b - 1)+1,λi o hi=>?_,λr hr=>r.keep (h2 r hr) (Kp.refl _ _) λb _ hb=>by show (if col b=0 then 0 else _)=0;rw [iP hb]⟩;obtain ⟨k,hk,hg⟩:=h i o hi;refine o.keep (h1 k o hk) (Kp.refl _ _) (λb _ hb=>?_) (λb _ hb=>by show (if col b=0 then 0 else _)=0;rw [iP hb]);show (if col b=0 then 0 else g (col b - 1)+1)=i+1;rw [iN (by omega),show col b - 1=k from by omega,hg]
/-- the first object comes in the place of another. -/
theorem Sep.inst {x:Ob} {i:Nat} (H:Sep w (x::os) rs) (hi:i < os.length):Sep w (os.set i x) rs:=by
 refine H.sub (λk=>if k=0 then i else if k=i+1 then os.length+5 else k - 1) λj o hj=>?_;by_cases e:i=j
 ·subst e;rw [List.getElem?_set_self hi] at hj;exact ⟨0,by simpa using hj,by simp⟩
 rw [List.getElem?_set_ne e] at hj;exact ⟨j+1,by simpa using hj,by rw [iN (by omega),iN (by omega)];omega⟩
end
theorem Ub(p q:Nat)(hp:p <= 4000000)(hq:q <= 4000000):IntKind.i64.wrap ((p:Int)+(q:Int))=((p+q:Nat):Int):=by
 unfold IntKind.wrap;simp [IntKind.bits,IntKind.signed];omega
theorem VY(p q:Nat)(hp:p <= 4000000)(hq:q <= p):IntKind.i64.wrap ((p:Int) - (q:Int))=((p - q:Nat):Int):=by
 have:(p:Int) - (q:Int)=((p - q:Nat):Int):=by omega
 rw [this];unfold IntKind.wrap;simp [IntKind.bits,IntKind.signed];omega
theorem UN{g c i:Nat}(h:c ≠ i):(if c=i then (some ⟨g,0,none⟩:Option Addr) else (some (⟨g,0,none⟩:Addr)).map (·.add (i * z)))=some ⟨g,i * z,none⟩:=by
 rw [iN h];show some ((⟨g,0,none⟩:Addr).add _)=_;rw [qG];simp
theorem Qb(EL:El P ρ T z zs bt){g c m i:Nat}(h:c ≠ i)(hi:i <= m){W:WD}{o:Oper}{a:Act}{k:Nat}{env:List (Nat×VL)}(E:Env k a env){x l:Operand}{q:IntKind}(ho:o.op= .slice (ρ.t 24) x (some l) none none)(hx:opv env x=some (.slice (some ⟨g,0,none⟩) m c))(hl:opv env l=some (.int q (i:Int))) :
  (execOp a.eval o).run P W= .ok (.value (.slice (some ⟨g,i * z,none⟩) (m - i) (c - i))) W:=by
 have:=Ru (P:=P) (w:=W) (i:=i) E ho hx hl EL.hS EL.sz hi;rw [UN h] at this;exact this
theorem IP(F:iF d)(EL:El P ρ T z zs bt)(hsz:d.sz=z){fid:FuncId}{fn:Func}(hf:P.funcs[fid]? =some fn)(hbd:fn.body=(Body2.n22 ρ).body)(hm:fn.ntmps=95)(hr:fn.results= #[.tmp 6]){fo:Func}(ho:P.funcs[ρ.f 29]? =some fo)(hona:(fo.name == "runtime.NumGoroutine")=false)(hob:fo.body.isNone=true)(hon:(Extern.findNext fo).isNone=true)(hof:Extern.find fo=some (Extern.SlicesOverlaps.overlaps #[ρ.t 24,ρ.t 24] #[ρ.t 4])){w:WD}{os:List Ob}{rs:List Rp}{ix iu:Nat}{v u:VL}{xs:List α}{y:α}(H:Sep w os rs)(hi:os[ix]? =some (Row T d v xs))(hu:os[iu]? =some (Row T d u [y]))(hne:ix ≠ iu){a:Int}(ha:0 <= a/\a <= xs.length/\0 < xs.length/\xs.length <= 1000000) :
  Calls P fid [v,.int .i64 a,u].toArray w (Ret λv' w'=>Sep w' (os.set ix (Row T d v' (xs.take a.toNat ++ y::xs.drop a.toNat))) rs):=by
 obtain ⟨h0,hlt,hpos,hbig⟩:=ha;obtain ⟨j,rfl⟩:∃ j:Nat,a=(j:Int):=⟨a.toNat,by omega⟩
 have hj:j <= xs.length:=by omega
 have hix:idx xs 0=some xs[0]:=by unfold idx;rw [iP (by omega)];simp [hpos]
 obtain ⟨g,c,rfl⟩:=H.rowformNE hi hix;obtain ⟨g2,c2,hu2⟩:=H.rowformNE hu (j:=0) (y:=y) rfl;have hu2:u= .slice (some ⟨g2,0,none⟩) 1 c2:=hu2;subst hu2;have hil:ix < os.length:=(List.getElem?_eq_some_iff.1 hi).1;have hul:iu < os.length:=(List.getElem?_eq_some_iff.1 hu).1;obtain ⟨cs,H1,hn,hnc,hcm,hcl,hct⟩:=H.rowBlk F hi;have hu1:(os.set ix (Blk g T cs))[iu]? =some (Row T d (.slice (some ⟨g2,0,none⟩) 1 c2) [y]):=by rw [List.getElem?_set_ne hne];exact hu
 obtain ⟨cs2,H2,hn2,hnc2,hcm2,hcl2,hct2⟩:=H1.rowBlk F hu1;rw [hsz] at hcl hct hcl2 hct2;rw [F.encs_one] at hct2;obtain ⟨n,hnn⟩:∃ n,n=xs.length:=⟨_,rfl⟩
 rw [← hnn] at hj hnc hct hn hpos hbig ⊢;have hgne:g2 ≠ g:=by
  obtain ⟨col,h1,_⟩:=H;obtain ⟨_,_,_,o1⟩:=h1 ix _ hi;obtain ⟨_,_,_,o2⟩:=h1 iu _ hu;have e1:=o1 g rfl;have e2:=o2 g2 rfl;intro e;rw [e] at e2;omega
 refine enter hf hbd hm rfl λa E=>?_;simp only [O9,Nat.reduceAdd] at E;refine wS ?_;refine wG ?_;refine sv E rfl rfl rfl (gD E rfl rfl) ?_;clear a E;intro a E;refine wN ?_;refine aA ?_;refine wS ?_;refine wG ?_;refine sv E rfl rfl rfl (cB E rfl rfl) ?_;clear a E;intro a E;refine sv E rfl rfl rfl (cB E rfl rfl) ?_;clear a E;intro a E;refine sv E rfl rfl rfl (Ru (i:=j) E rfl rfl rfl EL.hS EL.sz hj) ?_;clear a E;intro a E;refine wN ?_;refine aA ?_;refine wS ?_;refine wG ?_;refine sv E rfl rfl rfl (cB E rfl rfl) ?_;clear a E;intro a E;refine sv E rfl rfl rfl (P3 E rfl rfl EL.hS) ?_;clear a E;intro a E;refine sv E rfl rfl rfl (gD E rfl rfl) ?_;clear a E;intro a E;refine wN ?_;refine aA ?_;refine wS ?_;refine wS ?_;refine wG ?_;refine sv E rfl rfl rfl (cB E rfl rfl) ?_;clear a E;intro a E;refine sv E rfl rfl rfl (pI E rfl rfl rfl rfl) ?_;clear a E;intro a E;refine wN ?_;refine aA ?_;refine N8 E rfl (λhb=>by simp at hb) λ_=>?_;refine wK ?_;refine aA ?_;refine wS ?_;refine wG ?_;refine sv E rfl rfl rfl (cB E rfl rfl) ?_;clear a E;intro a E;refine sv E rfl rfl rfl (P3 E rfl rfl EL.hS) ?_;clear a E;intro a E;refine sv E rfl rfl rfl (gD E rfl rfl) ?_;clear a E;intro a E;refine wN ?_;refine aA ?_;refine wS ?_;refine wS ?_;refine wG ?_;refine sv E rfl rfl rfl (cB E rfl rfl) ?_;clear a E;intro a E;refine sv E rfl rfl rfl (cB E rfl rfl) ?_;clear a E;intro a E;refine sv E rfl rfl rfl (pI E rfl rfl rfl rfl) ?_;clear a E;intro a E;refine wN ?_;refine aA ?_;refine N8 E rfl (λhb=>?_) λhb=>?_
 ·have hjn:j=n:=by
   have:(j:Int)=(n:Int):=by simpa using hb
   omega
  refine wS ?_;refine wG ?_;refine sv E rfl rfl rfl (cB E rfl rfl) ?_;clear a E;intro a E;refine sv E rfl rfl rfl (cB E rfl rfl) ?_;clear a E;intro a E;have hi':os[ix]? =some (Row T d (.slice (some ⟨g,0,none⟩) n c) xs):=by rw [hnn];exact hi
  refine gG (i:=ix) E H (wn rfl) rfl rfl rfl rfl rfl hi' (Ni hu) EL.hS (by rw [hsz];exact EL.inf) (by rw [hsz];exact EL.zs0) (by show xs.length+1 <= 274877906944;omega) EL.bl ?_;clear E H;clear a;intro v3 w' a H E;refine sv E rfl rfl rfl (gD E rfl rfl) ?_;clear a E;intro a E;refine wN ?_;refine aA ?_;refine wR ?_;refine aJ ?_;refine Bp E hr rfl ?_;have e:xs.take ((j:Int)).toNat ++ y::xs.drop ((j:Int)).toNat=xs ++ [y]:=by
   show xs.take j ++ y::xs.drop j=_;rw [hjn,hnn,List.take_length,List.drop_length]
  rw [e];exact H
 refine wK ?_;refine aA ?_;have hjn:j ≠ n:=by
  intro e;rw [e] at hb;simp at hb
 have hjlt:j < n:=by omega
 clear H;have hb1:((os.set ix (Blk g T cs)).set iu (Blk g2 T cs2))[ix]? =some (Blk g T cs):=by rw [List.getElem?_set_ne (Ne.symm hne),List.getElem?_set_self hil]
 have hb2:((os.set ix (Blk g T cs)).set iu (Blk g2 T cs2))[iu]? =some (Blk g2 T cs2):=List.getElem?_set_self (by rw [List.length_set];exact hul);have hey:∀ {W:WD} {O:List Ob} {R:List Rp} (_:Sep W O R) {i:Nat} (_:O[i]? =some (Blk g2 T cs2)),∀ q u,(F.enc y)[q]? =some u->W.cell? ((⟨g2,0,none⟩:Addr).add q)=some u:=λ{W O R} HH {i} hO q u hq=>by
  rw [qG,Nat.zero_add];refine HH.blk_cell hO ?_;rw [← hct2,List.getElem?_take] at hq;split at hq
  ·exact hq
  cases hq
 have hexs:∀ q u,(F.encs (xs.drop j))[q]? =some u->cs[j * z+q]? =some u:=λq u hq=>by
  rw [← F.encs_drop xs j (by omega),← hct,hsz,List.getElem?_drop,List.getElem?_take] at hq;split at hq
  ·exact hq
  cases hq
 have hdl:(F.encs (xs.drop j)).length=(n - j) * z:=by rw [F.encs_len,List.length_drop,hsz,hnn]
 have hel:(F.enc y).length=z:=by rw [F.len,hsz]
 have hety:cs.take (j * z)=F.encs (xs.take j):=by
  rw [← hsz,← F.encs_take xs j (by omega),← hct,hsz,List.take_take];rw [Nat.min_eq_left (Nat.mul_le_mul_right _ (by omega))]
 refine wS ?_;refine wS ?_;refine wG ?_;refine sv E rfl rfl rfl (cB E rfl rfl) ?_;clear a E;intro a E;refine sv E rfl rfl rfl (cB E rfl rfl) ?_;clear a E;intro a E;refine sv E rfl rfl rfl (pI E rfl rfl rfl rfl) ?_;clear a E;intro a E;rw [Ub n 1 (by omega) (by omega)] at E;refine sv E rfl rfl rfl (cB E rfl rfl) ?_;clear a E;intro a E;refine sv E rfl rfl rfl (UK E rfl rfl EL.hS) ?_;clear a E;intro a E;refine sv E rfl rfl rfl (pI E rfl rfl rfl rfl) ?_;clear a E;intro a E;refine wN ?_;refine aA ?_;refine N8 E rfl (λhb=>?_) λhb=>?_
 ·-- a new row
  have hcn:c < n+1:=by have:=of_decide_eq_true hb;omega
  refine wS ?_;refine wG ?_;refine sv E rfl rfl rfl (cB E rfl rfl) ?_;clear a E;intro a E;refine sv E rfl rfl rfl (cB E rfl rfl) ?_;clear a E;intro a E;refine sv E rfl rfl rfl (Xr (i:=j) E rfl rfl rfl EL.hS EL.sz (by omega)) ?_;clear a E;intro a E;refine sv E rfl rfl rfl (cB E rfl rfl) ?_;clear a E;intro a E;refine sv E rfl rfl rfl (cB E rfl rfl) ?_;clear a E;intro a E;refine sv E rfl rfl rfl (pI E rfl rfl rfl rfl) ?_;clear a E;intro a E;rw [Ub n 1 (by omega) (by omega)] at E;refine sv E rfl rfl rfl (cB E rfl rfl) ?_;clear a E;intro a E;refine sv E rfl rfl rfl (pI E rfl rfl rfl rfl) ?_;clear a E;intro a E;rw [VY (n+1) j (by omega) (by omega)] at E;refine CV (olds:=F.encs (xs.take j)) (sl:=j) (sc:=c) (m:=n+1 - j) E H2 (wn rfl) rfl rfl rfl rfl rfl EL.hS EL.hI EL.inf EL.zs0 EL.pos (by rw [F.encs_len,List.length_take,hsz];congr 1;omega) (λq u hq=>?_) (by omega) (by omega) (by rw [show j+(n+1 - j)=n+1 by omega];exact Nat.le_trans (Nat.mul_le_mul (show n+1 <= 1000001 by omega) (Nat.le_of_ble_eq_true EL.bl)) (by decide)) (by simp only [maxLen];omega) ?_
  ·refine H2.blk_cell hb1 ?_;rw [← hety,List.getElem?_take] at hq;split at hq
   ·exact hq
   cases hq
  clear E H2;clear a;intro g' c' w' a hc1 hc2 H E;have ejn:j+(n+1 - j)=n+1:=by omega
  rw [ejn] at hc1 H E;refine sv E rfl rfl rfl (gD E rfl rfl) ?_;clear a E;intro a E;refine wN ?_;refine aA ?_;obtain ⟨os3,hos3⟩:∃ os3,os3=(os.set ix (Blk g T cs)).set iu (Blk g2 T cs2):=⟨_,rfl⟩
  rw [← hos3] at H hb1 hb2;obtain ⟨cz,hcz⟩:∃ cz,cz=F.encs (xs.take j) ++ (Builtin.zeroCells (Value.agg zs.toArray).cells (n+1 - j)).toList ++ (Builtin.zeroCells (Value.agg zs.toArray).cells (c' - (n+1))).toList:=⟨_,rfl⟩
  have hzs:(Value.agg zs.toArray).cells.size=z:=EL.zs0;have hczl:cz.length=c' * z:=by
   have zk:∀ k,(Builtin.zeroCells (Value.agg zs.toArray).cells k).toList.length=k * z:=λk=>by
    rw [Array.length_toList,size_zeroCells,hzs]
   have z0:(F.encs (xs.take j)).length=j * z:=by rw [F.encs_len,List.length_take,hsz];congr 1;omega
   rw [hcz,List.length_append,List.length_append,zk,zk,z0,← Nat.add_mul,← Nat.add_mul];congr 1;omega
  have hczt:cz.take (j * z)=F.encs (xs.take j):=by
   have e:(F.encs (xs.take j)).length=j * z:=by rw [F.encs_len,List.length_take,hsz];congr 1;omega
   rw [hcz,List.append_assoc,← e];exact List.take_left
  rw [← hcz] at H;refine wS ?_;refine wG ?_;refine sv E rfl rfl rfl (cB E rfl rfl) ?_;clear a E;intro a E;refine sv E rfl rfl rfl (cB E rfl rfl) ?_;clear a E;intro a E;refine sv E rfl rfl rfl (Qb EL (i:=j) (m:=n+1) (c:=c') (by omega) (by omega) E rfl rfl rfl) ?_;clear a E;intro a E;refine sv E rfl rfl rfl (cB E rfl rfl) ?_;clear a E;intro a E;have hjz:(j+1) * z=j * z+z:=Nat.succ_mul j z;have hcz:(j+1) * z <= c' * z:=Nat.mul_le_mul_right _ (by omega);have hfz:(j+1) * z+(n - j) * z <= c' * z:=by rw [← Nat.add_mul];exact Nat.mul_le_mul_right _ (by omega)
  refine Nm (i:=0) (m:=1) (us:=F.enc y) E H (wn rfl) rfl rfl rfl rfl rfl EL.hS EL.sz rfl (by omega) (by rw [hel,Nat.one_mul]) (hey H (i:=iu+1) (by simpa using hb2)) (by rw [hel,hczl];omega) (Ua F y) ?_;clear E H;clear a;clear w';intro w' a H E;refine wN ?_;refine aA ?_;rw [xB _ _ _ (by rw [hel,hczl];omega),hczt] at H;refine wS ?_;have hI:(λ_:WD=>True) { w' with drawn:=w'.drawn+1 }:=trivial;refine Nj (λ_:WD=>True) [(0,0),(1,0),(2,0),(3,0),(4,0),(5,0),(6,0),(7,0),(8,1)] EL.mix (by kernel_rfl) (λ_ _ _ h=>False.elim h.2) hI ?_
  replace H:=H.kept (Kp.drawn _ w' (w'.drawn+1))
  generalize ({ w' with drawn:=w'.drawn+1 }:WD)=w' at H ⊢;refine dU E rfl (wn rfl) rfl rfl (λw hW=>cB E rfl rfl) ?_;clear a E;intro a E;refine dU E rfl (wn rfl) rfl rfl (λw hW=>cB E rfl rfl) ?_;clear a E;intro a E;refine dU E rfl (wn rfl) rfl rfl (λw hW=>cB E rfl rfl) ?_;clear a E;intro a E;refine dU E rfl (wn rfl) rfl rfl (λw hW=>pI E rfl rfl rfl rfl) ?_;clear a E;intro a E;rw [Ub j 1 (by omega) (by omega)] at E;refine dU E rfl (wn rfl) rfl rfl (λw hW=>Qb EL (i:=j+1) (m:=n+1) (c:=c') (by omega) (by omega) E rfl rfl rfl) ?_;clear a E;intro a E;refine dU E rfl (wn rfl) rfl rfl (λw hW=>cB E rfl rfl) ?_;clear a E;intro a E;refine dU E rfl (wn rfl) rfl rfl (λw hW=>cB E rfl rfl) ?_;clear a E;intro a E;refine dU E rfl (wn rfl) rfl rfl (λw hW=>Qb EL (i:=j) (m:=n) (c:=c) (by omega) (by omega) E rfl rfl rfl) ?_;clear a E;intro a E;refine bO rfl ?_;have hml:(F.encs (xs.take j) ++ F.enc y ++ cz.drop (j * z+(F.enc y).length)).length=c' * z:=by
   rw [List.length_append,List.length_append,F.encs_len,List.length_take,List.length_drop,hel,hczl,hsz,Nat.min_eq_left (show j <= xs.length by omega)];omega
  have hb3:(Blk g' T (F.encs (xs.take j) ++ F.enc y ++ cz.drop (j * z+(F.enc y).length))::os3)[ix+1]? =some (Blk g T cs):=by simpa using hb1
  refine Nm (i:=0) (m:=n - j) (us:=F.encs (xs.drop j)) E H (wn rfl) rfl rfl rfl rfl rfl EL.hS EL.sz rfl (by omega) hdl (λq u hq=>?_) (by rw [hdl,hml];omega) (encs_one F _) ?_
  ·rw [qG];exact H.blk_cell hb3 (hexs q u hq)
  clear E H;clear a;clear w';intro w' a H E;refine wN ?_;refine aA ?_;refine ⟨trivial,?_⟩;refine bF ?_;refine aA ?_;rw [xB _ _ _ (by rw [hdl,hml];omega)] at H;refine wS ?_;refine wG ?_;refine sv E rfl rfl rfl (cB E rfl rfl) ?_;clear a E;intro a E;refine sv E rfl rfl rfl (gD E rfl rfl) ?_;clear a E;intro a E;refine wN ?_;refine aA ?_;refine wR ?_;refine aJ ?_;refine Bp E hr rfl ?_;have e5:(F.encs (xs.take j) ++ F.enc y).length=(j+1) * z:=by
   rw [List.length_append,F.encs_len,List.length_take,hel,hsz,Nat.min_eq_left (show j <= xs.length by omega)];omega
  have e6:(F.encs (xs.take j) ++ F.enc y ++ cz.drop (j * z+(F.enc y).length)).take ((j+1) * z)=F.encs (xs.take j ++ [y]):=by
   rw [← e5,List.take_left,F.encs_app,F.encs_one]
  have e7:∀ R:List VL,((F.encs (xs.take j) ++ F.enc y ++ cz.drop (j * z+(F.enc y).length)).take ((j+1) * z) ++ F.encs (xs.drop j) ++ R).take ((n+1) * z)=F.encs (xs.take j ++ y::xs.drop j):=λR=>by
   rw [e6,← F.encs_app,List.append_assoc,List.singleton_append];have:(F.encs (xs.take j ++ y::xs.drop j)).length=(n+1) * z:=by
    rw [F.encs_len,List.length_append,List.length_cons,List.length_take,List.length_drop,hsz,← hnn];congr 1;omega
   rw [← this];exact List.take_left
  have hcl4:((F.encs (xs.take j) ++ F.enc y ++ cz.drop (j * z+(F.enc y).length)).take ((j+1) * z) ++ F.encs (xs.drop j) ++ (F.encs (xs.take j) ++ F.enc y ++ cz.drop (j * z+(F.enc y).length)).drop ((j+1) * z+(F.encs (xs.drop j)).length)).length=c' * z:=by
   rw [List.length_append,List.length_append,List.length_take,List.length_drop,hml,hdl];omega
  have H5:=H.blkRow (i:=0) (xs:=xs.take j ++ y::xs.drop j) (n:=n+1) (c:=c') F rfl (by rw [List.length_append,List.length_cons,List.length_take,List.length_drop,← hnn];omega) hc1 hc2 (by rw [hsz];exact hcl4) (by rw [hsz];exact e7 _);have H6:Sep w' (os3.set ix (Row T d (.slice (some ⟨g',0,none⟩) (n+1) c') (xs.take j ++ y::xs.drop j))) rs:=Sep.inst H5 (by rw [hos3];simpa using hil);have H7:=H6.blkRow (i:=iu) (g:=g2) (cs:=cs2) (xs:=[y]) (n:=1) (c:=c2) F (by rw [List.getElem?_set_ne hne];exact hb2) rfl hnc2 hcm2 (by rw [hsz];exact hcl2) (by rw [hsz,F.encs_one];exact hct2);have e8:(os3.set ix (Row T d (.slice (some ⟨g',0,none⟩) (n+1) c') (xs.take j ++ y::xs.drop j))).set iu (Row T d (.slice (some ⟨g2,0,none⟩) 1 c2) [y])=os.set ix (Row T d (.slice (some ⟨g',0,none⟩) (n+1) c') (xs.take j ++ y::xs.drop j)):=by
   rw [hos3];apply List.ext_getElem?;intro q;by_cases q1:iu=q
   ·subst q1;rw [List.getElem?_set_self (by simpa using hul),List.getElem?_set_ne hne,hu]
   rw [List.getElem?_set_ne q1];by_cases q2:ix=q
   ·subst q2;rw [List.getElem?_set_self (by simpa using hil),List.getElem?_set_self hil]
   rw [List.getElem?_set_ne q2,List.getElem?_set_ne q1,List.getElem?_set_ne q2,List.getElem?_set_ne q2]
  rw [e8] at H7;exact H7
 -- in place
 have hcn:n+1 <= c:=by have:=of_decide_eq_false hb;omega
 refine wK ?_;refine aA ?_;refine wS ?_;refine wG ?_;refine sv E rfl rfl rfl (cB E rfl rfl) ?_;clear a E;intro a E;refine sv E rfl rfl rfl (cB E rfl rfl) ?_;clear a E;intro a E;refine sv E rfl rfl rfl (cB E rfl rfl) ?_;clear a E;intro a E;refine sv E rfl rfl rfl (pI E rfl rfl rfl rfl) ?_;clear a E;intro a E;rw [Ub n 1 (by omega) (by omega)] at E;refine sv E rfl rfl rfl (Xr (i:=n+1) E rfl rfl rfl EL.hS EL.sz hcn) ?_;clear a E;intro a E;refine sv E rfl rfl rfl (gD E rfl rfl) ?_;clear a E;intro a E;refine wN ?_;refine aA ?_;refine wS ?_;refine wS ?_;refine wG ?_;refine sv E rfl rfl rfl (cB E rfl rfl) ?_;clear a E;intro a E;refine sv E rfl rfl rfl (cB E rfl rfl) ?_;clear a E;intro a E;refine sv E rfl rfl rfl (cB E rfl rfl) ?_;clear a E;intro a E;refine sv E rfl rfl rfl (cB E rfl rfl) ?_;clear a E;intro a E;refine sv E rfl rfl rfl (pI E rfl rfl rfl rfl) ?_;clear a E;intro a E;rw [Ub j 1 (by omega) (by omega)] at E;refine sv E rfl rfl rfl (Qb EL (i:=j+1) (m:=n+1) (c:=c) (by omega) (by omega) E rfl rfl rfl) ?_;clear a E;intro a E;refine sv E rfl rfl rfl (Nl E rfl rfl (Xq ho hona hob hon hof (Xz EL (g:=g) (g2:=g2) hgne (H2.blk hb1) (H2.blk hb2)))) ?_;clear a E;intro a E;refine sv E rfl rfl rfl (KU E rfl rfl) ?_;clear a E;intro a E;refine wN ?_;refine aA ?_;refine N8 E rfl (λ_=>?_) λh=>by cases h
 refine wS ?_;have hI:(λ_:WD=>True) { w with drawn:=w.drawn+1 }:=trivial;refine Nj (λ_:WD=>True) [(0,0),(1,0),(2,0),(3,0),(4,0),(5,0),(6,0),(7,0),(8,1)] EL.mix (by kernel_rfl) (λ_ _ _ h=>False.elim h.2) hI ?_
 replace H2:=H2.kept (Kp.drawn _ w (w.drawn+1))
 clear H1;generalize ({ w with drawn:=w.drawn+1 }:WD)=w' at H2 ⊢;refine dU E rfl (wn rfl) rfl rfl (λw hW=>cB E rfl rfl) ?_;clear a E;intro a E;refine dU E rfl (wn rfl) rfl rfl (λw hW=>cB E rfl rfl) ?_;clear a E;intro a E;refine dU E rfl (wn rfl) rfl rfl (λw hW=>cB E rfl rfl) ?_;clear a E;intro a E;refine dU E rfl (wn rfl) rfl rfl (λw hW=>pI E rfl rfl rfl rfl) ?_;clear a E;intro a E;rw [Ub j 1 (by omega) (by omega)] at E;refine dU E rfl (wn rfl) rfl rfl (λw hW=>Qb EL (i:=j+1) (m:=n+1) (c:=c) (by omega) (by omega) E rfl rfl rfl) ?_;clear a E;intro a E;refine dU E rfl (wn rfl) rfl rfl (λw hW=>cB E rfl rfl) ?_;clear a E;intro a E;refine dU E rfl (wn rfl) rfl rfl (λw hW=>cB E rfl rfl) ?_;clear a E;intro a E;refine dU E rfl (wn rfl) rfl rfl (λw hW=>Qb EL (i:=j) (m:=n+1) (c:=c) (by omega) (by omega) E rfl rfl rfl) ?_;clear a E;intro a E;refine bO rfl ?_;have hfz:(j+1) * z+(n - j) * z <= c * z:=by rw [← Nat.add_mul];exact Nat.mul_le_mul_right _ (by omega)
 have hjz:(j+1) * z=j * z+z:=Nat.succ_mul j z;have hcz:(j+1) * z <= c * z:=by exact Nat.mul_le_mul_right _ (by omega)
 refine Nm (i:=ix) (m:=n - j) (us:=F.encs (xs.drop j)) E H2 (wn rfl) rfl rfl rfl rfl rfl EL.hS EL.sz hb1 (by omega) hdl (λq u hq=>?_) (by rw [hdl,hcl];exact hfz) (encs_one F _) ?_
 ·rw [qG];exact H2.blk_cell hb1 (hexs q u hq)
 clear E H2;clear a;clear w';intro w' a H E;refine wN ?_;refine aA ?_;refine ⟨trivial,?_⟩;refine bF ?_;refine aA ?_;rw [xB _ _ _ (by rw [hdl,hcl];exact hfz)] at H;obtain ⟨cs3,hcs3⟩:∃ cs3,cs3=cs.take ((j+1) * z) ++ F.encs (xs.drop j) ++ cs.drop ((j+1) * z+(F.encs (xs.drop j)).length):=⟨_,rfl⟩
 rw [← hcs3] at H;have hcl3:cs3.length=c * z:=by rw [hcs3,List.length_append,List.length_append,List.length_take,List.length_drop,hdl,hcl];omega
 obtain ⟨os3,hos3⟩:∃ os3,os3=(os.set ix (Blk g T cs)).set iu (Blk g2 T cs2):=⟨_,rfl⟩
 rw [← hos3] at H hb1 hb2;have hl3:os3.length=os.length:=by rw [hos3];simp
 have hb3:(os3.set ix (Blk g T cs3))[ix]? =some (Blk g T cs3):=List.getElem?_set_self (by omega);have hb4:(os3.set ix (Blk g T cs3))[iu]? =some (Blk g2 T cs2):=by rw [List.getElem?_set_ne hne];exact hb2
 refine wS ?_;refine wG ?_;refine sv E rfl rfl rfl (cB E rfl rfl) ?_;clear a E;intro a E;refine sv E rfl rfl rfl (cB E rfl rfl) ?_;clear a E;intro a E;refine sv E rfl rfl rfl (Qb EL (i:=j) (m:=n+1) (c:=c) (by omega) (by omega) E rfl rfl rfl) ?_;clear a E;intro a E;refine sv E rfl rfl rfl (cB E rfl rfl) ?_;clear a E;intro a E;refine Nm (i:=ix) (m:=1) (us:=F.enc y) E H (wn rfl) rfl rfl rfl rfl rfl EL.hS EL.sz hb3 (by omega) (by rw [hel,Nat.one_mul]) (hey H hb4) (by rw [hel,hcl3];omega) (Ua F y) ?_;clear E H;clear a;clear w';intro w' a H E;refine wN ?_;refine aA ?_;rw [List.set_set,xB _ _ _ (by rw [hel,hcl3];omega)] at H;refine wS ?_;refine wG ?_;refine sv E rfl rfl rfl (cB E rfl rfl) ?_;clear a E;intro a E;refine sv E rfl rfl rfl (gD E rfl rfl) ?_;clear a E;intro a E;refine wN ?_;refine aA ?_;refine wR ?_;refine Bp E hr rfl ?_;have e9:cs3.take (j * z)=F.encs (xs.take j):=by
  rw [hcs3,List.append_assoc,List.take_append_of_le_length (by rw [List.length_take,hcl];omega),List.take_take,← hety];congr 1;omega
 have e10:cs3.drop (j * z+(F.enc y).length)=F.encs (xs.drop j) ++ cs.drop ((j+1) * z+(F.encs (xs.drop j)).length):=by
  rw [hcs3,List.append_assoc,hel,show j * z+z=(cs.take ((j+1) * z)).length from by rw [List.length_take,hcl];omega];exact List.drop_left
 rw [e9,e10] at H;have hcl4:(F.encs (xs.take j) ++ F.enc y ++ (F.encs (xs.drop j) ++ cs.drop ((j+1) * z+(F.encs (xs.drop j)).length))).length=c * z:=by
  rw [List.length_append,List.length_append,List.length_append,List.length_drop,F.encs_len,List.length_take,hel,hdl,hcl,hsz,Nat.min_eq_left (show j <= xs.length by omega)];omega
 have e7:(F.encs (xs.take j) ++ F.enc y ++ (F.encs (xs.drop j) ++ cs.drop ((j+1) * z+(F.encs (xs.drop j)).length))).take ((n+1) * z)=F.encs (xs.take j ++ y::xs.drop j):=by
  have e6:F.encs (xs.take j) ++ F.enc y ++ (F.encs (xs.drop j) ++ cs.drop ((j+1) * z+(F.encs (xs.drop j)).length))=F.encs (xs.take j ++ y::xs.drop j) ++ cs.drop ((j+1) * z+(F.encs (xs.drop j)).length):=by
   rw [F.encs_app,show y::xs.drop j= [y] ++ xs.drop j from rfl,F.encs_app,F.encs_one];simp only [List.append_assoc]
  have:(F.encs (xs.take j ++ y::xs.drop j)).length=(n+1) * z:=by
   rw [F.encs_len,List.length_append,List.length_cons,List.length_take,List.length_drop,hsz,← hnn];congr 1;omega
  rw [e6,← this];exact List.take_left
 have H5:=H.blkRow (i:=ix) (xs:=xs.take j ++ y::xs.drop j) (n:=n+1) (c:=c) F (List.getElem?_set_self (by omega)) (by rw [List.length_append,List.length_cons,List.length_take,List.length_drop,← hnn];omega) hcn hcm (by rw [hsz];exact hcl4) (by rw [hsz];exact e7);rw [List.set_set] at H5;have H7:=H5.blkRow (i:=iu) (g:=g2) (cs:=cs2) (xs:=[y]) (n:=1) (c:=c2) F (by rw [List.getElem?_set_ne hne];exact hb2) rfl hnc2 hcm2 (by rw [hsz];exact hcl2) (by rw [hsz,F.encs_one];exact hct2);have e8:(os3.set ix (Row T d (.slice (some ⟨g,0,none⟩) (n+1) c) (xs.take j ++ y::xs.drop j))).set iu (Row T d (.slice (some ⟨g2,0,none⟩) 1 c2) [y])=os.set ix (Row T d (.slice (some ⟨g,0,none⟩) (n+1) c) (xs.take j ++ y::xs.drop j)):=by
  rw [hos3];apply List.ext_getElem?;intro q;by_cases q1:iu=q
  ·subst q1;rw [List.getElem?_set_self (by simpa using hul),List.getElem?_set_ne hne,hu]
  rw [List.getElem?_set_ne q1];by_cases q2:ix=q
  ·subst q2;rw [List.getElem?_set_self (by simpa using hil),List.getElem?_set_self hil]
  rw [List.getElem?_set_ne q2,List.getElem?_set_ne q1,List.getElem?_set_ne q2,List.getElem?_set_ne q2]
 rw [e8] at H7;exact H7
theorem IQ(F:iF d)(EL:El P ρ T z zs bt)(hsz:d.sz=z){fid:FuncId}{fn:Func}(hf:P.funcs[fid]? =some fn)(hbd:fn.body=(Body2.n22 ρ).body)(hm:fn.ntmps=95)(hr:fn.results= #[.tmp 6]){w:WD}{os:List Ob}{rs:List Rp}{ix iu:Nat}{v u:VL}{y:α}(H:Sep w os rs)(hi:os[ix]? =some (Row T d v []))(hu:os[iu]? =some (Row T d u [y]))(hne:ix ≠ iu) :
  Calls P fid [v,.int .i64 0,u].toArray w (Ret λv' w'=>Sep w' (os.set ix (Row T d v' [y])) rs):=by
 obtain ⟨a0,c,rfl⟩:=H.rowform hi;obtain ⟨g2,c2,hu2⟩:=H.rowformNE hu (j:=0) (y:=y) rfl;have hu2:u= .slice (some ⟨g2,0,none⟩) 1 c2:=hu2;subst hu2;refine enter hf hbd hm rfl λa E=>?_;simp only [O9,Nat.reduceAdd,List.length_nil] at E;refine wS ?_;refine wG ?_;refine sv E rfl rfl rfl (gD E rfl rfl) ?_;clear a E;intro a E;refine wN ?_;refine aA ?_;refine wS ?_;refine wG ?_;refine sv E rfl rfl rfl (cB E rfl rfl) ?_;clear a E;intro a E;refine sv E rfl rfl rfl (cB E rfl rfl) ?_;clear a E;intro a E;refine sv E rfl rfl rfl (Ru (i:=0) E rfl rfl rfl EL.hS EL.sz (Nat.le_refl _)) ?_;clear a E;intro a E;refine wN ?_;refine aA ?_;refine wS ?_;refine wG ?_;refine sv E rfl rfl rfl (cB E rfl rfl) ?_;clear a E;intro a E;refine sv E rfl rfl rfl (P3 E rfl rfl EL.hS) ?_;clear a E;intro a E;refine sv E rfl rfl rfl (gD E rfl rfl) ?_;clear a E;intro a E;refine wN ?_;refine aA ?_;refine wS ?_;refine wS ?_;refine wG ?_;refine sv E rfl rfl rfl (cB E rfl rfl) ?_;clear a E;intro a E;refine sv E rfl rfl rfl (pI E rfl rfl rfl rfl) ?_;clear a E;intro a E;refine wN ?_;refine aA ?_;refine N8 E rfl (λhb=>by simp at hb) λ_=>?_;refine wK ?_;refine aA ?_;refine wS ?_;refine wG ?_;refine sv E rfl rfl rfl (cB E rfl rfl) ?_;clear a E;intro a E;refine sv E rfl rfl rfl (P3 E rfl rfl EL.hS) ?_;clear a E;intro a E;refine sv E rfl rfl rfl (gD E rfl rfl) ?_;clear a E;intro a E;refine wN ?_;refine aA ?_;refine wS ?_;refine wS ?_;refine wG ?_;refine sv E rfl rfl rfl (cB E rfl rfl) ?_;clear a E;intro a E;refine sv E rfl rfl rfl (cB E rfl rfl) ?_;clear a E;intro a E;refine sv E rfl rfl rfl (pI E rfl rfl rfl rfl) ?_;clear a E;intro a E;refine wN ?_;refine aA ?_;refine N8 E rfl (λhb=>?_) λhb=>by simp at hb
 refine wS ?_;refine wG ?_;refine sv E rfl rfl rfl (cB E rfl rfl) ?_;clear a E;intro a E;refine sv E rfl rfl rfl (cB E rfl rfl) ?_;clear a E;intro a E;refine gG (i:=ix) E H (wn rfl) rfl rfl rfl rfl rfl hi (Ni hu) EL.hS (by rw [hsz];exact EL.inf) (by rw [hsz];exact EL.zs0) (by show 0+1 <= 274877906944;omega) EL.bl ?_;clear E H;clear a;intro v3 w' a H E;refine sv E rfl rfl rfl (gD E rfl rfl) ?_;clear a E;intro a E;refine wN ?_;refine aA ?_;refine wR ?_;refine aJ ?_;refine Bp E hr rfl ?_;exact H
theorem Ed(F:iF d)(EL:El P ρ T z zs bt)(hsz:d.sz=z){fid:FuncId}{fn:Func}(hf:P.funcs[fid]? =some fn)(hbd:fn.body=(Body2.n22 ρ).body)(hm:fn.ntmps=95)(hr:fn.results= #[.tmp 6]){fo:Func}(ho:P.funcs[ρ.f 29]? =some fo)(hona:(fo.name == "runtime.NumGoroutine")=false)(hob:fo.body.isNone=true)(hon:(Extern.findNext fo).isNone=true)(hof:Extern.find fo=some (Extern.SlicesOverlaps.overlaps #[ρ.t 24,ρ.t 24] #[ρ.t 4])){w:WD}{os:List Ob}{rs:List Rp}{ix iu:Nat}{v u:VL}{xs:List α}{y:α}(H:Sep w os rs)(hi:os[ix]? =some (Row T d v xs))(hu:os[iu]? =some (Row T d u [y]))(hne:ix ≠ iu){a:Int}(ha:0 <= a/\a <= xs.length/\xs.length <= 1000000) :
  Calls P fid [v,.int .i64 a,u].toArray w (Ret λv' w'=>Sep w' (os.set ix (Row T d v' (xs.take a.toNat ++ y::xs.drop a.toNat))) rs):=by
 cases xs with
 | nil=>
  obtain rfl:a=0:=by have:=ha.2.1;simp at this;omega
  exact IQ F EL hsz hf hbd hm hr H hi hu hne
 | cons x xs=>exact IP F EL hsz hf hbd hm hr ho hona hob hon hof H hi hu hne ⟨ha.1,ha.2.1,by simp,ha.2.2⟩
end Go.Cb

namespace Go.Cb
open Ieee
/-- a word that stands for a whole number. -/
def Std(x:Nat)(n:Int):Prop:=∃ (s:Bool) (m p:Nat),Ieee.double.read x= .number s m (-(p:Int))/\p <= 1074/\signed s m 0=n * 2 ^ p
theorem Ws:Ieee.double.binade=4503599627370496:=by decide
theorem Wu:Ieee.double.infRung=9218868437227405312:=by decide
theorem sgw:Ieee.double.signWeight=9223372036854775808:=by decide
theorem lst:Ieee.double.leastPlace= -1074:=by decide
theorem PY:Ieee.double.fractionBits=52:=rfl
theorem PZ(s:Bool)(n:Nat):Toward.even.cut s n 0=n:=by
 unfold Toward.cut;simp [Nat.mod_one]
theorem Ya(s:Bool){R:Nat}(h:R < 9223372036854775808):Ieee.double.word s R % 9223372036854775808=R/\(Ieee.double.word s R / 9223372036854775808 % 2 == 1)=s:=by
 unfold Format.word;rw [sgw];cases s with
 | false=>
  refine ⟨by simp;omega,?_⟩;have:R / 9223372036854775808=0:=by omega
  simp [this]
 | true=>
  refine ⟨by simp;omega,?_⟩;have:(9223372036854775808+R) / 9223372036854775808=1:=by omega
  simp [this]
theorem Vg(s:Bool)(m u:Nat):signed s m u=signed s m 0 * 2 ^ u:=by
 unfold signed;simp only [Nat.shiftLeft_eq,Nat.pow_zero,Nat.mul_one];cases s <;> simp [Int.neg_mul]
theorem DF(s:Bool)(m u:Nat):signed (!s) m u= - signed s m u:=by
 unfold signed;cases s <;> simp
theorem Iq{n:Int}(h:n.natAbs < 9007199254740992):Std (FloatKind.f64.nearest n) n:=by
 have e:FloatKind.f64.nearest n=Ieee.double.nearest (n < 0) n.natAbs 0:=rfl;rw [e];by_cases h0:n=0
 ·subst h0;exact ⟨false,0,1074,by decide,Nat.le_refl _,by rw [Int.zero_mul];rfl⟩
 obtain ⟨m,hm⟩:∃ m,m=n.natAbs:=⟨_,rfl⟩
 have hm0:m ≠ 0:=by omega
 rw [← hm] at h ⊢;obtain ⟨lg,hlg⟩:∃ lg,lg=m.log2:=⟨_,rfl⟩
 have l1:2 ^ lg <= m:=by rw [hlg];exact Nat.log2_self_le hm0
 have l2:m < 2 ^ (lg+1):=by rw [hlg];exact Nat.lt_log2_self
 have l3:lg <= 52:=by
  rw [hlg];have:m.log2 < 53:=(Nat.log2_lt hm0).2 (by simpa using h);omega
 obtain ⟨K,hK⟩:∃ K,K=m * 2 ^ (52 - lg):=⟨_,rfl⟩
 have k1:4503599627370496 <= K:=by
  have:2 ^ lg * 2 ^ (52 - lg) <= m * 2 ^ (52 - lg):=Nat.mul_le_mul_right _ l1;rw [← Nat.pow_add,show lg+(52 - lg)=52 by omega] at this;rw [hK];exact this
 have k2:K < 9007199254740992:=by
  have:m * 2 ^ (52 - lg) < 2 ^ (lg+1) * 2 ^ (52 - lg):=Nat.mul_lt_mul_of_pos_right l2 (Nat.pow_pos (by decide));rw [← Nat.pow_add,show lg+1+(52 - lg)=53 by omega] at this;rw [hK];exact this
 have hn:Ieee.double.nearest (n < 0) m 0=Ieee.double.word (n < 0) ((lg+1022) * 4503599627370496+K):=by
  unfold Format.nearest;rw [iN hm0];simp only [PY,lst,Ws,Wu,← hlg];have e1:max ((0:Int)+(lg:Int) - 52) (-1074)=(lg:Int) - 52:=by omega
  have e1':max ((0:Int)+(lg:Int) - ((52:Nat):Int)) (-1074)=(lg:Int) - 52:=by omega
  rw [e1'];rw [show ((0:Int) - ((lg:Int) - 52)).toNat=52 - lg by omega,show ((lg:Int) - 52 - 0).toNat=0 by omega,PZ,show ((lg:Int) - 52 - -1074).toNat=lg+1022 by omega,Nat.shiftLeft_eq,← hK,Nat.min_eq_left (by omega)]
 rw [hn];obtain ⟨w1,w2⟩:=Ya (decide (n < 0)) (R:=(lg+1022) * 4503599627370496+K) (by omega);refine ⟨n < 0,K,52 - lg,?_,by omega,?_⟩
 ·unfold Format.read;simp only [sgw,Ws,Wu,lst,w1,w2];rw [iN (by omega),iP (by omega)];have e3:4503599627370496+((lg+1022) * 4503599627370496+K) % 4503599627370496=K:=by omega
  have e4:((lg+1022) * 4503599627370496+K) / 4503599627370496 - 1=lg+1022:=by omega
  rw [e3,e4];congr 1;omega
 unfold signed;simp only [Nat.shiftLeft_eq,Nat.pow_zero,Nat.mul_one];rw [hK];by_cases hneg:n < 0
 ·simp [hneg];rw [show n= -(m:Int) by omega];simp [Int.neg_mul]
 simp [hneg];rw [show n=(m:Int) by omega]
/-- the sign of a number that was written, against zero. -/
theorem FO(s:Bool)(M q:Nat)(hq:q <= 1074):Ieee.double.order (Ieee.double.write (.number s M (-(q:Int)))) 0=some (if M=0 then .eq else if s=true then .lt else .gt):=by
 have z0:Ieee.double.read 0= .number false 0 (-1074):=by decide
 unfold Format.order;rw [z0];show (Ieee.double.read (Ieee.double.nearest s M (-(q:Int)))).order (.number false 0 (-1074))=_;by_cases hM:M=0
 ·subst hM;rw [iP rfl];have e:Ieee.double.nearest s 0 (-(q:Int))=Ieee.double.word s 0:=by unfold Format.nearest;rw [iP rfl]
  rw [e];cases s <;> decide
 rw [iN hM];obtain ⟨R,hR,r0,r1⟩:∃ R,Ieee.double.nearest s M (-(q:Int))=Ieee.double.word s R/\0 < R/\R <= 9218868437227405312:=by
  unfold Format.nearest;rw [iN hM];simp only [PY,lst,Ws,Wu];refine ⟨_,rfl,?_,Nat.min_le_right _ _⟩;obtain ⟨last,hl⟩:∃ last:Int,last=max (-(q:Int)+(M.log2:Int) - ((52:Nat):Int)) (-1074):=⟨_,rfl⟩
  rw [← hl];by_cases hlt:last= -1074
  ·rw [hlt,show (-1074 - -(q:Int)).toNat=0 by omega,PZ,Nat.shiftLeft_eq];have:0 < M * 2 ^ (-(q:Int) - -1074).toNat:=Nat.mul_pos (Nat.pos_of_ne_zero hM) (Nat.pow_pos (by decide));omega
  have:0 < (last - -1074).toNat:=by omega
  have:4503599627370496 <= (last - -1074).toNat * 4503599627370496:=by omega
  omega
 rw [hR];obtain ⟨w1,w2⟩:=Ya s (R:=R) (by omega);have cmp:∀ (m':Nat) (i:Int),0 < m'->(Datum.number s m' i).order (.number false 0 (-1074))=some (if s=true then .lt else .gt):=by
  intro m' i hm';unfold Datum.order;simp only [Option.some.injEq];have hz:signed false 0 (-1074 - min i (-1074)).toNat=0:=by simp [signed]
  rw [hz];have hp:0 < m' <<< (i - min i (-1074)).toNat:=by rw [Nat.shiftLeft_eq];exact Nat.mul_pos hm' (Nat.pow_pos (by decide))
  cases s with
  | true=>
   have:signed true m' (i - min i (-1074)).toNat < 0:=by unfold signed;simp only [if_true];omega
   simp [compare,compareOfLessAndEq,this]
  | false=>
   have h1:0 < signed false m' (i - min i (-1074)).toNat:=by unfold signed;simp only [Bool.false_eq_true,if_false];omega
   have h2:¬ signed false m' (i - min i (-1074)).toNat < 0:=by omega
   have h3:¬ signed false m' (i - min i (-1074)).toNat=0:=by omega
   simp [compare,compareOfLessAndEq,h2,h3]
 unfold Format.read;simp only [sgw,Ws,Wu,lst,w1,w2];split
 ·exact cmp _ _ r0
 split
 ·exact cmp _ _ (by omega)
 rw [iP (by omega)];cases s <;> rfl
/-- a difference of two that stand for whole numbers: there is one, and its sign is theirs. -/
theorem BQ{x y:Nat}{a b:Int}(hx:Std x a)(hy:Std y b):∃ z,Ieee.double.sub x y=some z/\Ieee.double.order z 0=some (if a=b then .eq else if a < b then .lt else .gt):=by
 obtain ⟨s,m,p,e1,h1,v1⟩:=hx;obtain ⟨t,k,q,e2,h2,v2⟩:=hy;unfold Format.sub;rw [e1,e2];simp only [Datum.opposite,Datum.sum,Option.map_some];obtain ⟨r,hr,hr1⟩:∃ r:Nat,min (-(p:Int)) (-(q:Int))= -(r:Int)/\r <= 1074/\p <= r/\q <= r:=⟨max p q,by omega,by omega,by omega,by omega⟩
 obtain ⟨r1,r2,r3⟩:=hr1;rw [hr];have t1:signed s m (-(p:Int) - -(r:Int)).toNat=a * 2 ^ r:=by
  rw [Vg,v1,Int.mul_assoc];congr 1;rw [show (-(p:Int) - -(r:Int)).toNat=r - p by omega];rw [← Int.pow_add,show p+(r - p)=r by omega]
 have t2:signed (!t) k (-(q:Int) - -(r:Int)).toNat= -(b * 2 ^ r):=by
  rw [DF,Vg,v2,Int.mul_assoc];congr 2;rw [show (-(q:Int) - -(r:Int)).toNat=r - q by omega];rw [← Int.pow_add,show q+(r - q)=r by omega]
 rw [t1,t2];have t3:a * 2 ^ r+ -(b * 2 ^ r)=(a - b) * 2 ^ r:=by rw [Int.sub_mul];omega
 rw [t3];refine ⟨_,rfl,?_⟩;rw [FO _ _ _ r1];have hp:(0:Int) < 2 ^ r:=Int.pow_pos (by decide);by_cases hab:a=b
 ·subst hab;simp
 have hne:(a - b) * 2 ^ r ≠ 0:=Int.mul_ne_zero (by omega) (by omega);rw [iN (by omega),iN hab];by_cases hlt:a < b
 ·have:(a - b) * 2 ^ r < 0:=Int.mul_neg_of_neg_of_pos (by omega) hp;simp [hne,this,hlt]
 have:¬ (a - b) * 2 ^ r < 0:=by have:=Int.mul_pos (show 0 < a - b by omega) hp;omega
 simp [hne,this,hlt]
section
variable {P:Program} {ops:Array Oper} {o:Oper} {w:WD} {a:Act} {n:Nat} {env:List (Nat×VL)}
open Go.RowKit
theorem QA(E:Env n a env){ts:Array TI}{x y:Operand}{k:FloatKind}{p q:Nat}(ho:o.op= .call { callee:=.builtin .complex,args:=#[x,y],argTypes:=ts })(hx:opv env x=some (.float k p))(hy:opv env y=some (.float k q)):(execOp a.eval o).run P w= .ok (.value (.complex k p q)) w:=by
 simp only [execOp,ho];have h:∀ ts t,Builtin.complex_ ts t #[.float k p,.float k q]=pure (.complex k p q):=λ_ _=>iP rfl;simp [Sem.run_bind,resolve,invoke,builtin,E.eval hx,E.eval hy,h]
theorem FP(E:Env n a env){ts:Array TI}{x:Operand}{k:FloatKind}{p q:Nat}(ho:o.op= .call { callee:=.builtin .real,args:=#[x],argTypes:=ts })(hx:opv env x=some (.complex k p q)):(execOp a.eval o).run P w= .ok (.value (.float k p)) w:=by
 simp only [execOp,ho];have h:∀ ts t,Builtin.real_ ts t #[.complex k p q]=pure (.float k p):=λ_ _=>rfl;simp [Sem.run_bind,resolve,invoke,builtin,E.eval hx,h]
theorem QB(E:Env n a env){ts:Array TI}{x:Operand}{k:FloatKind}{p q:Nat}(ho:o.op= .call { callee:=.builtin .imag,args:=#[x],argTypes:=ts })(hx:opv env x=some (.complex k p q)):(execOp a.eval o).run P w= .ok (.value (.float k q)) w:=by
 simp only [execOp,ho];have h:∀ ts t,Builtin.imag_ ts t #[.complex k p q]=pure (.float k q):=λ_ _=>rfl;simp [Sem.run_bind,resolve,invoke,builtin,E.eval hx,h]
theorem QC(E:Env n a env){t t':TI}{x y:Operand}{p q p' q' r i:Nat}(ho:o.op= .binOp .sub t x y t')(hx:opv env x=some (.complex .f64 p q))(hy:opv env y=some (.complex .f64 p' q'))(hr:Ieee.double.sub p p'=some r)(hi:Ieee.double.sub q q'=some i):(execOp a.eval o).run P w= .ok (.value (.complex .f64 r i)) w:=by
 simp only [execOp,ho,E.eval hx,E.eval hy];have h1:FloatKind.f64.format=Ieee.double:=rfl;simp [eqGuard,binOp,Op.complexOp,Op.Complex.arith,Op.floatArith,Sem.run_bind,h1,hr,hi]
theorem DG(E:Env n a env){t t':TI}{x y:Operand}{p q:Nat}{c:Option Ordering}{v:Bool}(ho:o.op= .binOp .gtr t x y t')(hx:opv env x=some (.float .f64 p))(hy:opv env y=some (.float .f64 q))(hc:Ieee.double.order p q=c)(hv:(c == some .gt)=v):(execOp a.eval o).run P w= .ok (.value (.bool v)) w:=by
 simp only [execOp,ho,E.eval hx,E.eval hy];have h1:FloatKind.f64.format=Ieee.double:=rfl;subst hc;subst hv;simp [eqGuard,binOp,Op.floatCmp,Sem.run_bind,h1]
theorem LC(E:Env n a env){t t':TI}{x y:Operand}{p q:Nat}{c:Option Ordering}{v:Bool}(ho:o.op= .binOp .eql t x y t')(hx:opv env x=some (.float .f64 p))(hy:opv env y=some (.float .f64 q))(hc:Ieee.double.order p q=c)(hv:(c == some .eq)=v):(execOp a.eval o).run P w= .ok (.value (.bool v)) w:=by
 simp only [execOp,ho,E.eval hx,E.eval hy];have h1:FloatKind.f64.format=Ieee.double:=rfl;subst hc;subst hv;simp [eqGuard,binOp,Op.floatCmp,Sem.run_bind,h1]
end
/-- does one pair stand behind another one? (numbers from 0 to 2^48) -/
def Sa(a b c d:Int):Bool:=decide (c < a) || (decide (a=c) && decide (d < b))
def Yb(a b c d:Int):Prop:=(0 <= a/\a <= 281474976710656)/\(0 <= b/\b <= 281474976710656)/\(0 <= c/\c <= 281474976710656)/\(0 <= d/\d <= 281474976710656)
instance (a b c d:Int):Decidable (Yb a b c d):=by unfold Yb;infer_instance
end Go.Cb

namespace Go.Cb
open Go Go.Shelf Go.Proofs Go.RowKit Go.Sort
def toL(b:ByteArray):List UInt8:=b.data.toList
def ofL(l:List UInt8):ByteArray:=⟨l.toArray⟩
def Qc(x:List UInt8):List (List UInt8)->List (List UInt8)
 | []=>[x]
 | y::l=>if decide (x <= y)=true then x::y::l else y::Qc x l
def Nr:List (List UInt8)->List (List UInt8)
 | []=>[]
 | x::l=>Qc x (Nr l)
theorem Le(x:List UInt8):∀ l,(Qc x l).Perm (x::l)
 | []=>.refl _
 | y::l=>by
  unfold Qc;split
  ·exact .refl _
  exact ((Le x l).cons y).trans (.swap x y l)
theorem An:∀ l,(Nr l).Perm l
 | []=>.refl _
 | x::l=>(Le x _).trans ((An l).cons x)
theorem Ph(x:List UInt8):∀ l:List (List UInt8),l.Pairwise (λa b=>decide (a <= b)=true)->(Qc x l).Pairwise (λa b=>decide (a <= b)=true)
 | [],_=>by simp [Qc]
 | y::l,h=>by
  obtain ⟨h1,h2⟩:=List.pairwise_cons.1 h;unfold Qc;split
  ·rename_i hxy;refine List.pairwise_cons.2 ⟨λz hz=>?_,h⟩;rcases List.mem_cons.1 hz with rfl | hz
   ·exact hxy
   have e1:=of_decide_eq_true hxy;have e2:=of_decide_eq_true (h1 z hz);exact decide_eq_true (List.le_trans e1 e2)
  rename_i hxy;refine List.pairwise_cons.2 ⟨λz hz=>?_,Ph x l h2⟩;rcases List.mem_cons.1 ((Le x l).mem_iff.1 hz) with rfl | hz
  ·have:¬ z <= y:=λe=>hxy (decide_eq_true e);exact decide_eq_true ((List.le_total z y).resolve_left this)
  exact h1 z hz
theorem Lf:∀ l,(Nr l).Pairwise (λa b=>decide (a <= b)=true)
 | []=>.nil
 | x::l=>Ph x _ (Lf l)
theorem IU(l:List (List UInt8)):Nr l=l.mergeSort λx y=>decide (x <= y):=by
 refine List.Perm.eq_of_pairwise (le:=λa b=>decide (a <= b)=true) (λa b _ _ h1 h2=>List.le_antisymm (of_decide_eq_true h1) (of_decide_eq_true h2)) (Lf l) (List.pairwise_mergeSort (le:=λx y:List UInt8=>decide (x <= y)) (λa b c h1 h2=>decide_eq_true (List.le_trans (of_decide_eq_true h1) (of_decide_eq_true h2))) (λa b=>by rcases List.le_total a b with h | h <;> simp [h]) l) ((An l).trans (List.mergeSort_perm l _).symm)
/-- what slices.Sort makes of strings, and slices.Compact. -/
def xZ(l:List ByteArray):List ByteArray:=(Nr (l.map toL)).map ofL
def tU(l:List ByteArray):List ByteArray:=(Lib.compact (l.map toL)).map ofL
theorem Ci(l:List (List UInt8)):(l.map ofL).map toL=l:=by rw [List.map_map];exact (List.map_congr_left λx _=>rfl).trans (List.map_id l)
theorem Fk(l:List ByteArray):(xZ l).length=l.length:=by unfold xZ;rw [List.length_map,(An _).length_eq,List.length_map]
def kSe:iF kS:=⟨λx=>[.string x],λh=>h,rfl⟩
theorem LD(ys:List ByteArray)(j:Nat)(hj:j < ys.length):(flatK kSe.enc 1 ys.toArray)[j]! = .string ys[j]:=by
 rw [get_flatK _ _ _ _ (by simpa using hj)];simp [kSe,hj,Nat.mod_one]
theorem QD(ys:List ByteArray)(j:Nat)(hj:j < ys.length):encStr ((ys.map toL).toArray[j]!)= .string ys[j]:=by
 have:(ys.map toL).toArray[j]! =toL ys[j]:=by simp [hj]
 rw [this];rfl
theorem FQ{w:WD}{g:Nat}{ys:List ByteArray}(h:HoldsK kSe.enc 1 w g 0 ys.toArray):Holds encStr w g 0 (ys.map toL).toArray:=by
 intro j hj;have hj':j < ys.length:=by simpa using hj
 have:=h j (by simpa using hj');rw [LD ys j hj'] at this;rw [QD ys j hj'];exact this
theorem QE(W:WD)(g:Nat)(ys:List ByteArray):putRow encStr W g 0 (ys.map toL).toArray=putRowK kSe.enc 1 W g 0 ys.toArray:=by
 unfold putRowK putRow;congr 1;funext c;unfold putCells;congr 1;funext k x;have e:(ys.map toL).toArray.size=(flatK kSe.enc 1 ys.toArray).size:=by simp
 rw [e];split
 ·rename_i hk;have hk':k < ys.length:=by simpa using hk.2
  rw [Nat.sub_zero,QD ys k hk',LD ys k hk'];rfl
 rfl
section
variable {P:Program} {ρ:Ren} {w:WD} {os:List Ob} {rs:List Rp} {ix:Nat} {v:VL} {xs:List ByteArray} {e:TI}
theorem MA(L:Lays.n190 P ρ)(H:Sep w os rs)(hi:os[ix]? =some (Row e kS v xs))(hn:xs.length <= 1000000) :
  Calls P (ρ.f 190) [v].toArray w (Ret λv' w'=>v'= .tuple #[]/\Sep w' (os.set ix (Row e kS v (xZ xs))) rs):=by
 obtain ⟨_,_,flat,⟨_,hv⟩,_⟩:=H.ob ix hi;rcases hv with ⟨rfl,h0⟩ | ⟨g,cap,cur,rfl,_⟩
 ·have h1:xs= []:=List.eq_nil_of_length_eq_zero h0;subst h1;refine (Any.slices_Sort_string_none L none 0 w).mono ?_;rintro _ w' ⟨rfl,rfl⟩;refine ⟨rfl,?_⟩;have h3:os.set ix (Row e kS (.slice none 0 0) (xZ []))=os:=by
   have h2:xZ []= []:=List.eq_nil_of_length_eq_zero (Fk []);obtain ⟨hl,he⟩:=List.getElem?_eq_some_iff.1 hi;rw [h2,← he,List.set_getElem_self]
  rw [h3];exact H
 have hlen:xs.length=(xs.map toL).length:=by simp
 have hcon:=Any.slices_Sort_string L g 0 cap (xs.map toL) w (FQ (Fh H kSe hi)) (Np H hi).1 (by simp;omega);rw [← hlen] at hcon;refine hcon.mono ?_;rintro _ _ ⟨rfl,n,os',rfl⟩;refine ⟨rfl,?_⟩;have:=H.sorted kSe hi n (xZ xs) (Fk xs) os';unfold sortWorldK at this;rw [← IU,← Ci (Nr (xs.map toL)),QE];exact this
theorem MB(L:Lays.n194 P ρ)(H:Sep w os rs)(hi:os[ix]? =some (Row e kS v xs))(hn:xs.length <= 1000000) :
  Calls P (ρ.f 194) [v].toArray w (Ret λv' w'=>Sep w' (os.set ix (Row e kS v' (tU xs))) rs):=by
 obtain ⟨_,_,flat,⟨_,hv⟩,_⟩:=H.ob ix hi;rcases hv with ⟨rfl,h0⟩ | ⟨g,cap,cur,rfl,_,_,hcap,_⟩
 ·have h1:xs= []:=List.eq_nil_of_length_eq_zero h0;subst h1;refine (Any.slices_Compact_string_empty L none 0 w).mono ?_;rintro _ w' ⟨rfl,rfl⟩;have h3:os.set ix (Row e kS (.slice none 0 0) (tU []))=os:=by
   have h2:tU []= []:=rfl;obtain ⟨hl,he⟩:=List.getElem?_eq_some_iff.1 hi;rw [h2,← he,List.set_getElem_self]
  show Sep _ (os.set ix (Row e kS (.slice none 0 0) (tU []))) rs;rw [h3];exact H
 have hlen:xs.length=(xs.map toL).length:=by simp
 have hcon:=Any.slices_Compact_string L g 0 cap (xs.map toL) w (FQ (Fh H kSe hi)) (by simp;omega) (by simpa using hcap);rw [← hlen] at hcon;refine hcon.mono ?_;rintro _ _ ⟨rfl,q,rfl⟩;have hle:(Lib.compact (xs.map toL)).length <= xs.length:=by
  rw [hlen];unfold Lib.compact Lib.compactUpTo;rw [List.length_map];exact Nat.le_trans (List.length_filter_le _ _) (by simp)
 obtain ⟨ys,hys⟩:∃ ys,ys=tU xs ++ List.replicate (xs.length - (Lib.compact (xs.map toL)).length) (ofL []):=⟨_,rfl⟩
 have hyl:ys.length=xs.length:=by rw [hys];unfold tU;simp;omega
 have hym:ys.map toL=Lib.compact (xs.map toL) ++ List.replicate (xs.length - (Lib.compact (xs.map toL)).length) []:=by
  rw [hys];unfold tU;rw [List.map_append,Ci,List.map_replicate];rfl
 have h1:=H.sorted kSe hi q ys hyl #[];unfold sortWorldK at h1;have hsz:kS.sz=1:=rfl;rw [grow_empty,hsz,← QE,hym] at h1;have hil:ix < os.length:=(List.getElem?_eq_some_iff.1 hi).1;obtain ⟨cs,H2,e1,e2,e3,e4,e5⟩:=h1.rowBlk kSe (n:=xs.length) (List.getElem?_set_self hil);rw [List.set_set] at H2;rw [hsz,Nat.mul_one] at e4 e5;have H3:=H2.blkRow (xs:=tU xs) (n:=(Lib.compact (xs.map toL)).length) (c:=cap) kSe (List.getElem?_set_self hil) (by unfold tU;simp) (by omega) e3 (by rw [hsz,Nat.mul_one];exact e4) (by
  rw [hsz,Nat.mul_one];have:cs.take (Lib.compact (xs.map toL)).length=(cs.take xs.length).take (Lib.compact (xs.map toL)).length:=by rw [List.take_take,Nat.min_eq_left hle]
  rw [this,e5,hys,kSe.encs_app];have l:(kSe.encs (tU xs)).length=(Lib.compact (xs.map toL)).length:=by rw [kSe.encs_len,hsz,Nat.mul_one];unfold tU;simp
  rw [← l,List.take_left])
 rw [List.set_set] at H3;exact H3
end
end Go.Cb

namespace Go.Cb
open Go Go.Shelf Go.Proofs Go.RowKit
/-- what slices.Sorted makes of numbers. -/
def Sb(l:List Int):List Int:=l.mergeSort λx y=>decide (x <= y)
theorem Pi:∀ (a b:List Int),a.Nodup->(∀ x ∈ a,x ∈ b)->b.length <= a.length->a.Perm b
 | [],b,_,_,h=>by
  have:b= []:=List.eq_nil_of_length_eq_zero (by simpa using h);rw [this]
 | x::a,b,hn,hs,hl=>by
  have hx:x ∈ b:=hs x (by simp);have hp:=List.perm_cons_erase hx;obtain ⟨h1,h2⟩:=List.nodup_cons.1 hn;refine List.Perm.trans (List.Perm.cons x (Pi a (b.erase x) h2 (λy hy=>?_) ?_)) hp.symm
  ·exact (List.mem_erase_of_ne (by rintro rfl;exact h1 hy)).2 (hs y (by simp [hy]))
  rw [List.length_erase_of_mem hx];simp at hl;omega
theorem Yc{α:Type}{x:Int}{y:α}:∀ {l:List (Int×α)},dN l x=some y->x ∈ l.map (·.1)
 | [],h=>by cases h
 | (k,z)::l,h=>by
  unfold dN at h;split at h
  ·rename_i e;simp [e]
  have:=Yc h;simp only [List.map_cons,List.mem_cons];exact .inr this
theorem FR:∀ ss:List Int,(⟨λx=>[.int .i64 x],λh=>h,rfl⟩:iF (kI .i64)).encs ss=ss.map encZ
 | []=>rfl
 | x::xs=>by
  have:=FR xs;unfold iF.encs at this ⊢;rw [List.flatMap_cons,this];rfl
theorem FS{P:Program}{k:TI}{α:Type}{l:List (Int×α)}{D:DataW VL}{w:WD}{b n:Nat}(hk:P.underlying k=some (.int .i64))(hown:w.ownsMap P k rdV b n D)(hs:Maps.size D=l.length)(ht:Maps.Tidy D)
  (hnone:∀ j,(kyI .i64).ok j=true->dN l j=none->Maps.has D ((kyI .i64).lit j)=false):(intKeys D).Perm (l.map (·.1)):=by
 have hwf:=intKeys_wf hown hk;obtain ⟨es,hD0,hpw⟩:=ht;obtain ⟨es',hD',hko⟩:=hown.keysOf;obtain rfl:es=es':=by rw [hD0] at hD';simpa using hD'
 subst hD0;have hform:∀ p ∈ es,∃ x,p.1= .int .i64 x:=λp hp=>by
  obtain ⟨v,hv⟩:=hko p hp;obtain ⟨x,_,hx,_⟩:=Maps.keyOf_i64 hk hv;exact ⟨x,hx⟩
 have hnd:(intKeys (.map es)).Nodup:=by
  unfold intKeys;rw [List.Nodup,List.pairwise_map];refine hpw.imp_of_mem λ{p q} hp hq hne e=>hne ?_;obtain ⟨x,hx⟩:=hform p hp;obtain ⟨y,hy⟩:=hform q hq;rw [hx,hy] at e ⊢;have:x=y:=e;rw [this]
 refine Pi _ _ hnd (λx hx=>?_) (by rw [List.length_map,← hs];simp [intKeys,Maps.size]);have hok:=hwf x hx;have hhas:Maps.has (.map es:DataW VL) (.int .i64 x)=true:=by
  rw [Maps.has_eq,List.any_eq_true];obtain ⟨p,hp,rfl⟩:=List.mem_map.1 hx;obtain ⟨y,hy⟩:=hform p hp;refine ⟨p,hp,?_⟩;rw [hy];simp [intOf,Lit.sameKey]
 cases hg:dN l x with
 | none=>have:=hnone x hok hg;rw [show (kyI .i64).lit x=Lit.int .i64 x from rfl,hhas] at this;cases this
 | some y=>exact Yc hg
/-- a new row that a contract tells of. -/
theorem Sep.ownsRow {w w':WD} {os:List Ob} {rs:List Rp} {e:TI} {v:VL} {ss:List Int} (H:Sep w os rs) (hr:w'.ownsRow w.heap.size e 1 v ss.length (ss.map encZ)) (hb:Below w.heap.size w w'):Sep w' (Row e (kI .i64) v ss::os) rs:=by
 refine H.new ⟨hb.os,hb.tape,hb.output,hb.size,λb h _=>hb.block b h⟩ λok _=>⟨ss.map encZ,?_,?_,λg hg=>?_⟩
 ·obtain ⟨h1,h2⟩:=hr;refine ⟨h1,?_⟩;rcases h2 with h2 | ⟨g,cap,cur,hv,h3,h4⟩
  ·exact .inl h2
  exact .inr ⟨g,cap,cur,hv,Nat.zero_le _,h4⟩
 ·have:=La (d:=kI .i64) (⟨λx=>[.int .i64 x],λh=>h,rfl⟩:iF (kI .i64)) (w:=w') (ok:=λb=>ok b/\b < w.heap.size) ss;rw [FR] at this;exact this
 rcases hr.2 with ⟨rfl,_⟩ | ⟨g',cap,cur,rfl,h3,_⟩
 ·cases hg
 cases hg;exact h3
end Go.Cb

namespace Go.Cb
open Go.RowKit
section
variable {P:Program} {ops:Array Oper} {Q:Exit->Act->WD->Prop} {rest:List Oper} {w w':WD} {a:Act} {n:Nat} {env:List (Nat×VL)} {os:List Ob} {rs:List Rp} {ty:TI} {ps:String} {af:Array Edge}
theorem e2{α β:Type}{a a':α}{b b':β}(h:(a,b)=(a',b')):a=a'/\b=b':=by cases h;exact ⟨rfl,rfl⟩
/-- a load of one cell. -/
theorem lb2(E:Env n a env)(H:Sep w os rs)(i:Nat){d:Nat}{p:Nat}{T:TI}{cs:List VL}{x:Operand}{t:TI}{off:Nat}{v:VL}{dd:TypeDesc}
  (ht:P.underlying t=some dd) (h:(Nat.ble (d+1) n,opv env x,os[i]?,cs[off]?,dM dd)=(true,some (.pointer (some ⟨p,off,none⟩)),some (Blk p T cs),some v,true)) (k:∀ a',Env n a' ((d,v)::env)->wpList P ops Q rest a' w):wpList P ops Q (⟨some d,.load t x,ty,ps,af,none⟩::rest) a w:=by
 obtain ⟨h1,h⟩:=e2 h;obtain ⟨h2,h⟩:=e2 h;obtain ⟨h3,h⟩:=e2 h;obtain ⟨h4,h5⟩:=e2 h;exact lb E H i rfl rfl h1 rfl h2 h3 h4 ht h5 k
/-- a load of several. -/
theorem ln(i:Nat)(us:List VL)(E:Env n a env)(H:Sep w os rs){d:Nat}{p j:Nat}{T:TI}{cs:List VL}{x:Operand}{t:TI}{dd:TypeDesc}
  (ht:P.underlying t=some dd) (h:(Nat.ble (d+1) n,opv env x,os[i]?,(cs.drop j).take us.length,dM dd)=(true,some (.pointer (some ⟨p,j,none⟩)),some (Blk p T cs),us,false)) (hs:(P.info? t).map (·.size)=some us.length)
  (k:∀ a',Env n a' ((d,.agg us.toArray)::env)->wpList P ops Q rest a' w):wpList P ops Q (⟨some d,.load t x,ty,ps,af,none⟩::rest) a w:=by
 obtain ⟨h1,h⟩:=e2 h;obtain ⟨h2,h⟩:=e2 h;obtain ⟨h3,h⟩:=e2 h;obtain ⟨h4,h5⟩:=e2 h;exact sv E rfl rfl h1 (zN E H rfl h2 h3 h4 ht h5 hs) k
/-- a store. -/
theorem ss(i:Nat)(E:Env n a env)(H:Sep w os rs){x y:Operand}{t:TI}{p j:Nat}{T:TI}{cs us:List VL}{v:VL}
  (h:(opv env x,opv env y,v.cells,os[i]?,Nat.ble (j+us.length) cs.length)=(some (.pointer (some ⟨p,j,none⟩)),some v,us.toArray,some (Blk p T cs),true)) (hs:(P.info? t).map (·.size)=some us.length) (h1:us.all (·.oneCell')=true)
  (k:∀ w',Sep w' (os.set i (Blk p T (cE cs j us))) rs->wpList P ops Q rest a w'):wpList P ops Q (⟨none,.store t x y,ty,ps,af,none⟩::rest) a w:=by
 obtain ⟨g1,h⟩:=e2 h;obtain ⟨g2,h⟩:=e2 h;obtain ⟨g3,h⟩:=e2 h;obtain ⟨g4,g5⟩:=e2 h;exact Ro E H (wn rfl) rfl rfl g1 g2 g3 g4 hs g5 h1 k
/-- a value. -/
theorem sv2(E:Env n a env){d:Nat}{op:Go.Op}{v:VL}(hdn:Nat.ble (d+1) n=true)(hrun:(execOp a.eval ⟨some d,op,ty,ps,af,none⟩).run P w= .ok (.value v) w')(k:∀ a',Env n a' ((d,v)::env)->wpList P ops Q rest a' w'):wpList P ops Q (⟨some d,op,ty,ps,af,none⟩::rest) a w:=sv E rfl rfl hdn hrun k
/-- a value under a guard that was read. -/
theorem gv(g:Nat)(E:Env n a env){d j:Nat}{op:Go.Op}{v:VL}{b c:Bool}{oj:Oper}(hb:c=b)(h:(Nat.ble (d+1) n,ops[j]?,oj.dst,pJ env g)=(true,some oj,some g,some (.bool c)))(hrun:(execOp a.eval ⟨some d,op,ty,ps,af,some (j,b)⟩).run P w= .ok (.value v) w')(k:∀ a',Env n a' ((d,v)::env)->wpList P ops Q rest a' w'):wpList P ops Q (⟨some d,op,ty,ps,af,some (j,b)⟩::rest) a w:=by
 obtain ⟨h1,h⟩:=e2 h;obtain ⟨h2,h⟩:=e2 h;obtain ⟨h3,h4⟩:=e2 h;exact eS E (ws' E rfl h2 h3 h4 hb) rfl h1 hrun k
/-- calls. -/
theorem xc2(E:Env n a env){d:Nat}{f:FuncId}{xs:List Operand}{ts:Array TI}{vs:List VL}{R:VL->WD->Prop}(h:(Nat.ble (d+1) n,Ai env xs)=(true,some vs))
  (hcf:∀ (w:WD) args,(callFunc f args).run P w= .ok (.enter f args) w) (hc:Calls P f vs.toArray w (Ret R)) (k:∀ v w',R v w'->∀ a',Env n a' ((d,v)::env)->wpList P ops Q rest a' w'):wpList P ops Q (⟨some d,.call { callee:=.value (.func f),args:=xs.toArray,argTypes:=ts },ty,ps,af,none⟩::rest) a w:=
 Pw E rfl rfl (e2 h).1 rfl (e2 h).2 hcf hc k
theorem xk2(E:Env n a env){d:Nat}{f:FuncId}{xs:List Operand}{ts:Array TI}{vs:List VL}{u:VL}{S:WD->Prop}(h:(Nat.ble (d+1) n,Ai env xs)=(true,some vs))
  (hcf:CF P f) (hc:Calls P f vs.toArray w (Ret λv w'=>u=v/\S w')) (k:∀ w',S w'->∀ a',Env n a' ((d,u)::env)->wpList P ops Q rest a' w'):wpList P ops Q (⟨some d,.call { callee:=.value (.func f),args:=xs.toArray,argTypes:=ts },ty,ps,af,none⟩::rest) a w:=
 xk E rfl rfl (e2 h).1 rfl (e2 h).2 hcf hc k
theorem gc(g:Nat)(E:Env n a env){d j:Nat}{f:FuncId}{xs:List Operand}{ts:Array TI}{vs:List VL}{R:VL->WD->Prop}{b c:Bool}{oj:Oper}(hb:c=b)(h:(Nat.ble (d+1) n,ops[j]?,oj.dst,pJ env g,Ai env xs)=(true,some oj,some g,some (.bool c),some vs))
  (hcf:∀ (w:WD) args,(callFunc f args).run P w= .ok (.enter f args) w) (hc:Calls P f vs.toArray w (Ret R)) (k:∀ v w',R v w'->∀ a',Env n a' ((d,v)::env)->wpList P ops Q rest a' w'):wpList P ops Q (⟨some d,.call { callee:=.value (.func f),args:=xs.toArray,argTypes:=ts },ty,ps,af,some (j,b)⟩::rest) a w:=by
 obtain ⟨h1,h⟩:=e2 h;obtain ⟨h2,h⟩:=e2 h;obtain ⟨h3,h⟩:=e2 h;obtain ⟨h4,h5⟩:=e2 h;exact bP E (ws' E rfl h2 h3 h4 hb) rfl h1 (Ct E rfl h5 (hcf w)) hc k
/-- a variable of its own, by a value or empty. -/
theorem bx(E:Env n a env)(H:Sep w os rs){d:Nat}{x:Operand}{T:TI}{v:VL}{cs:List VL}(h:(Nat.ble (d+1) n,opv env x,v.cells)=(true,some v,cs.toArray))
  (k:∀ p w' a',Sep w' (Blk p T cs::os) rs->Env n a' ((d,.pointer (some ⟨p,0,none⟩))::env)->wpList P ops Q rest a' w'):wpList P ops Q (⟨some d,.box T x,ty,ps,af,none⟩::rest) a w:=by
 obtain ⟨h1,h⟩:=e2 h;obtain ⟨h2,h3⟩:=e2 h;exact PQ E H (wn rfl) rfl h1 rfl h2 h3 k
theorem al2(E:Env n a env)(H:Sep w os rs){d:Nat}{T:TI}{cs:List VL}(hdn:Nat.ble (d+1) n=true)(hz:(P.info? T).bind (·.zero)=some (.agg cs.toArray))
  (k:∀ p w' a',Sep w' (Blk p T cs::os) rs->Env n a' ((d,.pointer (some ⟨p,0,none⟩))::env)->wpList P ops Q rest a' w'):wpList P ops Q (⟨some d,.alloc T,ty,ps,af,none⟩::rest) a w:=al E H rfl rfl hdn rfl hz k
/-- in regions that draw. -/
theorem fb2{os':List Ob}{rs':List Rp}{ord:List (Nat×Nat)}{i:Nat}(E:Env n a env){d:Nat}{x:Operand}{t:TI}{p j:Nat}{T:TI}{cs:List VL}{v:VL}{dd:TypeDesc}(hm:Blk p T cs ∈ os')
  (hu:P.underlying t=some dd) (h:(ops[i]?,Nat.ble (d+1) n,opv env x,cs[j]?,dM dd)=(some ⟨some d,.load t x,ty,ps,af,none⟩,true,some (.pointer (some ⟨p,j,none⟩)),some v,true))
  (k:∀ a',Env n a' ((d,v)::env)->oN P (dL os' rs') ops Q ord a' w):oN P (dL os' rs') ops Q ((i,0)::ord) a w:=by
 obtain ⟨h1,h⟩:=e2 h;obtain ⟨h2,h⟩:=e2 h;obtain ⟨h3,h⟩:=e2 h;obtain ⟨h4,h5⟩:=e2 h;exact fb E h1 (wn rfl) rfl h2 rfl h3 hm h4 hu h5 k
theorem fv{I:WD->Prop}{ord:List (Nat×Nat)}{i:Nat}(E:Env n a env){d:Nat}{op:Go.Op}{v:VL}(h:(ops[i]?,Nat.ble (d+1) n)=(some ⟨some d,op,ty,ps,af,none⟩,true))
  (hrun:∀ w,I w->(execOp a.eval ⟨some d,op,ty,ps,af,none⟩).run P w= .ok (.value v) w) (k:∀ a',Env n a' ((d,v)::env)->oN P I ops Q ord a' w):oN P I ops Q ((i,0)::ord) a w:=dU E (e2 h).1 (wn rfl) rfl (e2 h).2 hrun k
theorem ov{I:WD->Prop}{t:OT}{i:Nat}(E:Env n a env){d:Nat}{op:Go.Op}{v:VL}(h:(ops[i]?,Nat.ble (d+1) n)=(some ⟨some d,op,ty,ps,af,none⟩,true))
  (hrun:∀ w,I w->(execOp a.eval ⟨some d,op,ty,ps,af,none⟩).run P w= .ok (.value v) w) (k:∀ a',Env n a' ((d,v)::env)->sF P I ops Q t a' w):sF P I ops Q (.go i 0 t) a w:=Rt E (e2 h).1 (wn rfl) rfl (e2 h).2 hrun k
/-- reads in regions that draw, by trees. -/
theorem om{I:WD->Prop}{t:OT}{i:Nat}(E:Env n a env){d:Nat}{x:Operand}{v:VL}(h:(ops[i]?,Nat.ble (d+1) n,opv env x)=(some ⟨some d,.move x,ty,ps,af,none⟩,true,some v))(k:∀ a',Env n a' ((d,v)::env)->sF P I ops Q t a' w):sF P I ops Q (.go i 0 t) a w:=by
 obtain ⟨h1,h⟩:=e2 h;obtain ⟨h2,h3⟩:=e2 h;exact Rt E h1 (wn rfl) rfl h2 (λw hW=>cB E rfl h3) k
theorem ox{I:WD->Prop}{t:OT}{i:Nat}(E:Env n a env){d m:Nat}{x:Operand}{vs:Array VL}{v:VL}(h:(ops[i]?,Nat.ble (d+1) n,opv env x,vs[m]?)=(some ⟨some d,.extract x m,ty,ps,af,none⟩,true,some (.tuple vs),some v))(k:∀ a',Env n a' ((d,v)::env)->sF P I ops Q t a' w):sF P I ops Q (.go i 0 t) a w:=by
 obtain ⟨h1,h⟩:=e2 h;obtain ⟨h2,h⟩:=e2 h;obtain ⟨h3,h4⟩:=e2 h;exact Rt E h1 (wn rfl) rfl h2 (λw hW=>KV E rfl h3 h4) k
theorem ol{os':List Ob}{rs':List Rp}{t:OT}{i:Nat}(E:Env n a env){d:Nat}{x:Operand}{ti:TI}{p j:Nat}{T:TI}{cs:List VL}{v:VL}{dd:TypeDesc}(hm:Blk p T cs ∈ os')(hu:P.underlying ti=some dd)
  (h:(ops[i]?,Nat.ble (d+1) n,opv env x,cs[j]?,dM dd)=(some ⟨some d,.load ti x,ty,ps,af,none⟩,true,some (.pointer (some ⟨p,j,none⟩)),some v,true)) (k:∀ a',Env n a' ((d,v)::env)->sF P (dL os' rs') ops Q t a' w):sF P (dL os' rs') ops Q (.go i 0 t) a w:=by
 obtain ⟨h1,h⟩:=e2 h;obtain ⟨h2,h⟩:=e2 h;obtain ⟨h3,h⟩:=e2 h;obtain ⟨h4,h5⟩:=e2 h;exact Rt E h1 (wn rfl) rfl h2 (λw hW=>kT E rfl h3 (KY hm h4 hu h5 w hW)) k
theorem gl(g:Nat)(E:Env n a env)(H:Sep w os rs)(i:Nat){d j:Nat}{p:Nat}{T:TI}{cs:List VL}{x:Operand}{t:TI}{off:Nat}{v:VL}{dd:TypeDesc}{b c:Bool}{oj:Oper}(hb:c=b)(ht:P.underlying t=some dd)
  (h:(Nat.ble (d+1) n,ops[j]?,oj.dst,pJ env g,opv env x,os[i]?,cs[off]?,dM dd)=(true,some oj,some g,some (.bool c),some (.pointer (some ⟨p,off,none⟩)),some (Blk p T cs),some v,true)) (k:∀ a',Env n a' ((d,v)::env)->wpList P ops Q rest a' w):wpList P ops Q (⟨some d,.load t x,ty,ps,af,some (j,b)⟩::rest) a w:=by
 obtain ⟨h1,h⟩:=e2 h;obtain ⟨h2,h⟩:=e2 h;obtain ⟨h3,h⟩:=e2 h;obtain ⟨h4,h⟩:=e2 h;obtain ⟨h5,h⟩:=e2 h;obtain ⟨h6,h⟩:=e2 h;obtain ⟨h7,h8⟩:=e2 h;exact eS E (ws' E rfl h2 h3 h4 hb) rfl h1 (KW E H rfl h5 h6 h7 ht h8) k
theorem lS(E:Env n a env)(H:Sep w os rs){α:Type}{dk:Kd α}{d:Nat}{t e:TI}{x:Operand}{v:VL}{xs:List α}(hm:rSl dk v xs ∈ rs)(ht:P.underlying t=some (.slice e))(h:(Nat.ble (d+1) n,opv env x)=(true,some v))(k:∀ a',Env n a' ((d,.int .i64 (xs.length:Int))::env)->wpList P ops Q rest a' w):wpList P ops Q (⟨some d,.call { callee:=.builtin .len,args:=#[x],argTypes:=#[t] },ty,ps,af,none⟩::rest) a w:=sv E rfl rfl (e2 h).1 (vJ E H rfl (e2 h).2 hm ht) k
/-- the end. -/
theorem o1{fn:Func}{R:VL->WD->Prop}(E:Env n a env){t:Tmp}{v:VL}(h:(fn.results,pJ env t)=(#[.tmp t],some v))(k:R v w):bodyPost P fn (Ret R) .ret a w:=Bp E (e2 h).1 (e2 h).2 k
theorem oB(i:Nat)(us:List VL)(E:Env n a env)(H:Sep w os rs){fn:Func}{R:VL->WD->Prop}{t:Tmp}{T:TI}{p j:Nat}{B:TI}{cs:List VL}{dd:TypeDesc}
  (hu:P.underlying T=some dd) (h:(fn.results,pJ env t,os[i]?,(cs.drop j).take us.length,dM dd)=(#[.cell t T],some (.pointer (some ⟨p,j,none⟩)),some (Blk p B cs),us,false)) (hs:(P.info? T).map (·.size)=some us.length) (k:R (.agg us.toArray) w):bodyPost P fn (Ret R) .ret a w:=by
 obtain ⟨h1,h⟩:=e2 h;obtain ⟨h2,h⟩:=e2 h;obtain ⟨h3,h⟩:=e2 h;obtain ⟨h4,h5⟩:=e2 h;exact Ik E h1 (oO H h2 h3 h4 hu h5 hs) k
/-- places, one behind the other, each with a number. -/
def IV:Nat->List Nat->List (Nat×Nat)
 | _,[]=>[]
 | i,c::cs=>(i,c)::IV (i+1) cs
/-- what is said where ways join. -/
abbrev Jn (n:Nat) (a:Act) (w:WD) (e:List (Nat×VL)) (o:List Ob) (rs:List Rp) (q:Prop):Prop:=∃ rs',Env n a e/\Sep w o rs'/\(∀ r,r ∈ rs->r ∈ rs')/\q
/-- what is picked by places is there. -/
def Sc(os:List Ob):List Nat->List Ob
 | []=>[]
 | i::is=>match os[i]? with
  | some o=>o::Sc os is
  | none=>Sc os is
theorem Lg{os:List Ob}:∀ (is:List Nat) (x:Ob),x ∈ Sc os is->x ∈ os
 | [],x,h=>by cases h
 | i::is,x,h=>by
  unfold Sc at h;split at h
  ·rename_i o ho;rcases List.mem_cons.1 h with rfl | h
   ·exact List.mem_of_getElem? ho
   exact Lg is x h
  exact Lg is x h
def Sd(rs:List Rp):List Nat->List Rp
 | []=>[]
 | i::is=>match rs[i]? with
  | some r=>r::Sd rs is
  | none=>Sd rs is
theorem Lh{rs:List Rp}:∀ (is:List Nat) (x:Rp),x ∈ Sd rs is->x ∈ rs
 | [],x,h=>by cases h
 | i::is,x,h=>by
  unfold Sd at h;split at h
  ·rename_i o ho;rcases List.mem_cons.1 h with rfl | h
   ·exact List.mem_of_getElem? ho
   exact Lh is x h
  exact Lh is x h
theorem Sep.rdx (H:Sep w os rs) (is:List Nat) {X T:List Rp} (h:Sd rs is ++ X=T) (k:∀ r:Rp,r ∈ X->r ∈ rs):Sep w os T:=H.reads λr hr=>by
 rw [← h] at hr;rcases List.mem_append.1 hr with hr | hr
 ·exact Lh is r hr
 exact k r hr
abbrev nS:VL:=.slice none 0 0
theorem sx(H:Sep w os rs)(is:List Nat){os':List Ob}(h:Sc os is=os'):dL os' [] w:=⟨_,_,H,λx hx=>Lg is x (h ▸ hx),aP⟩
end
end Go.Cb

namespace Go.Cb
open Go.RowKit
def FT(T B:TI):Code:=
 .seq (.region 0 #[⟨some 2,.assign (.const (.slice none 0 0)),T, "slices.go:355",#[],none⟩] false) (.seq (.seq (.region 1 #[⟨some 3,.move (.tmp 0),T, "slices.go:357",#[],none⟩,⟨some 4,.binOp .eql T (.tmp 3) (.const (.slice none 0 0)) T,B, "slices.go:357",#[⟨0,.data⟩],none⟩] false)
  (.cond (.tmp 4) (.seq (.region 2 #[⟨some 2,.assign (.const (.slice none 0 0)),T, "slices.go:358",#[],none⟩] false) .ret) .skip))
  (.seq (.region 3 #[⟨some 5,.buildSlice T 0 #[],T, "slices.go:362",#[],none⟩,⟨some 6,.move (.tmp 0),T, "slices.go:362",#[],none⟩,⟨some 7,.call { callee:=.builtin .append,args:=#[.tmp 5,.tmp 6],argTypes:=#[T,T] },T, "slices.go:362",#[⟨0,.data⟩,⟨1,.data⟩],none⟩,⟨some 2,.assign (.tmp 7),T, "slices.go:362",#[⟨2,.data⟩,⟨2,.chain⟩,⟨0,.phase⟩,⟨1,.phase⟩,⟨2,.phase⟩],none⟩] false) .ret))
section
variable {P:Program} {fid:FuncId} {fn:Func} {T B e:TI} {bytes:Nat} {α:Type} {d:Kd α} {z:VL} {w:WD} {os:List Ob} {rs:List Rp} {v:VL} {xs:List α}
theorem MC(hf:P.funcs[fid]? =some fn)(hb:fn.body=some (FT T B))(hn:fn.ntmps=8)(hr:fn.results= #[.tmp 2])(ht:P.underlying T=some (.slice e))(inf:(P.info? e).map (λi=>(i.zero,i.size,i.bytes))=some (some z,d.sz,bytes))(hz:z.cells.size=d.sz)(hby:Nat.ble bytes 512=true)
  (hbs:∀ w,(Instr.buildSlice T 0 #[]).run P w= .ok (.slice (some ⟨w.heap.size,0,none⟩) 0 0) (w.alloc (.cells #[] e))) (H:Sep w os rs) (hv:∃ b c,v= .slice b xs.length c) (h0:∀ {m c},v= .slice none m c->xs= []) (hs:∀ w' u,Src w' (Row e d u []::os) rs d v xs) (hl:xs.length <= LIM) :
  Calls P fid [v].toArray w (Ret λv' w'=>Sep w' (Row e d v' xs::os) rs):=by
 obtain ⟨b,c,rfl⟩:=hv;refine enter hf hb hn rfl λa E=>?_;simp only [O9,Nat.reduceAdd] at E;refine wS (wG (eS E (wn rfl) rfl rfl (gD E rfl rfl) λa E=>wN (aA (wS (wS (wG (eS E (wn rfl) rfl rfl (cB E rfl rfl) λa E=>eS E (wn rfl) rfl rfl (LR E rfl rfl rfl ht) λa E=>wN (aA (N8 E rfl ?_ ?_)))))))))
 ·intro hb;cases b with
  | some _=>cases hb
  | none=>
   obtain rfl:=h0 rfl;exact wS (wG (eS E (wn rfl) rfl rfl (gD E rfl rfl) λa E=>wN (aA (wR (aJ (Bp E hr rfl (H.nilRow e d)))))))
 intro hb;refine wK (aA (wS (wG (pL (e:=e) (d:=d) (cs:=[]) (xs:=[]) E H (wn rfl) rfl rfl (ps:=[]) (parts:=[]) rfl rfl (hbs w) rfl rfl (λok hr=>Rows.nil _ _ _) λv2 w a H E=>eS E (wn rfl) rfl rfl (cB E rfl rfl) λa E=>gG (i:=0) E H (wn rfl) rfl rfl rfl rfl rfl rfl (hs _ _) ht inf hz (by simpa using hl) hby λv3 w a H E=>eS E (wn rfl) rfl rfl (gD E rfl rfl) λa E=>wN (aA (wR (Bp E hr rfl H)))))))
theorem W9(hf:P.funcs[fid]? =some fn)(hb:fn.body=some (FT T B))(hn:fn.ntmps=8)(hr:fn.results= #[.tmp 2])(ht:P.underlying T=some (.slice e))(inf:(P.info? e).map (λi=>(i.zero,i.size,i.bytes))=some (some z,d.sz,bytes))(hz:z.cells.size=d.sz)(hby:Nat.ble bytes 512=true)
  (hbs:∀ w,(Instr.buildSlice T 0 #[]).run P w= .ok (.slice (some ⟨w.heap.size,0,none⟩) 0 0) (w.alloc (.cells #[] e))) (H:Sep w os rs) (hm:rSl d v xs ∈ rs) (hl:xs.length <= LIM):Calls P fid [v].toArray w (Ret λv' w'=>Sep w' (Row e d v' xs::os) rs):=
 MC hf hb hn hr ht inf hz hby hbs H (H.slform hm) (λh=>by subst h;exact H.sl_none hm) (λ_ _=>qS hm) hl
end
end Go.Cb
