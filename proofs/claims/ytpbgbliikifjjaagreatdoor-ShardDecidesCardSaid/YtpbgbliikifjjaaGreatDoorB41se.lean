/- Base 41: slices.Delete and slices.Insert of rows of any flat kind, over the kit's bodies with their types renamed. -/
import Derived.Test.YtpbgbliikifjjaaGreatDoorAse2
import Derived.Shelf.Bodies2
set_option linter.unusedVariables false
set_option linter.unusedSimpArgs false
set_option maxRecDepth 20000
set_option maxHeartbeats 4000000
namespace Go.Cb
open Go.Proofs Go.RowKit
structure El (P:Program) (ρ:Shelf.Ren) (T:TypeId) (z:Nat) (zs:List Value) (bt:Nat):Prop where
  hS:P.underlying (ρ.t 24)=some (.slice T)
  hI:P.underlying (ρ.t 3)=some (.int .i64)
  sz:(P.info? T).map (·.size)=some z
  zr:(P.info? T).bind (·.zero)=some (.agg zs.toArray)
  inf:(P.info? T).map (fun i=>(i.zero,i.size,i.bytes))=some (some (.agg zs.toArray),z,bt)
  mix:P.follows .mixedOrders=true
  zc:(Builtin.zeroCells (Value.agg zs.toArray).cells 1).toList=zs
  zl:zs.length=z
  one:zs.all (·.oneCell')=true
  bl:Nat.ble bt 512=true
  pos:0 < z
theorem El.zs0 {P:Program} {ρ:Shelf.Ren} {T:TypeId} {z bt:Nat} {zs:List Value} (EL:El P ρ T z zs bt):(Value.agg zs.toArray).cells.size=z:=by
  show zs.toArray.size=z
  rw [List.size_toArray];exact EL.zl
variable {α:Type} {d:Kd α} {P:Program} {ρ:Shelf.Ren} {T:TypeId} {z bt:Nat} {zs:List Value}
theorem Ck(F:eJ d)(x:α):∀ u ∈ F.enc x,u.oneCell'=true:=d.one (F.mk' (w:=default) (ok:=fun _=>True))
theorem encs_one(F:eJ d)(xs:List α):∀ u ∈ F.encs xs,u.oneCell'=true:=by
  intro u hu
  obtain ⟨x,_,hx⟩:=List.mem_flatMap.1 hu
  exact Ck F x u hx
theorem Ac(F:eJ d)(EL:El P ρ T z zs bt)(hsz:d.sz=z){fid:FuncId}{fn:Func}(hf:P.funcs[fid]? =some fn)(hbd:fn.body=(Body2.n24 ρ).body)(hm:fn.ntmps=33)(hr:fn.results= #[.tmp 6]){w:World}{os:List Ob}{rs:List Rp}{ix:Nat}{v:Value}{xs:List α}(H:Sep w os rs)(hi:os[ix]? =some (Row T d v xs)){a b:Int}(hab:0 ≤ a∧a < xs.length∧b=a+1) :
    Calls P fid [v,.int .i64 a,.int .i64 b].toArray w (Ret fun v' w'=>Sep w' (os.set ix (Row T d v' (xs.eraseIdx a.toNat))) rs):=by
  obtain ⟨h0,hlt,rfl⟩:=hab
  obtain ⟨j,rfl⟩:∃ j:Nat,a=(j:Int):=⟨a.toNat,by omega⟩
  have hj:j < xs.length:=by omega
  have hix:idx xs (j:Int)=some xs[j]:=by unfold idx;rw [if_pos (by omega)];simp [hj]
  obtain ⟨g,c,rfl⟩:=H.rowformNE hi hix
  have hil:ix < os.length:=(List.getElem?_eq_some_iff.1 hi).1
  obtain ⟨cs,H1,hn,hnc,hcm,hcl,hct⟩:=H.rowBlk F hi
  clear H
  obtain ⟨n,hnn⟩:∃ n,n=xs.length:=⟨_,rfl⟩
  rw [← hnn] at hj hnc hct hn ⊢
  rw [hsz] at hcl hct
  have hb:(os.set ix (Blk g T cs))[ix]? =some (Blk g T cs):=List.getElem?_set_self hil
  refine enter hf hbd hm rfl fun a E=>?_
  simp only [pG,Nat.reduceAdd] at E
  have e1:((j:Int)+1)=((j+1:Nat):Int):=by omega
  rw [e1] at E
  refine wp_seq ?_
  refine wp_region_lit ?_
  refine sv E rfl rfl rfl (cM E rfl rfl) ?_
  clear a E;intro a E
  refine wpList_nil ?_
  refine aC ?_
  refine wp_seq ?_
  refine wp_region_lit ?_
  refine sv E rfl rfl rfl (bD E rfl rfl) ?_
  clear a E;intro a E
  refine sv E rfl rfl rfl (bD E rfl rfl) ?_
  clear a E;intro a E
  refine sv E rfl rfl rfl (bD E rfl rfl) ?_
  clear a E;intro a E
  refine sv E rfl rfl rfl (bD E rfl rfl) ?_
  clear a E;intro a E
  refine sv E rfl rfl rfl (uT E rfl rfl EL.hS) ?_
  clear a E;intro a E
  refine sv E rfl rfl rfl (Nv (i:=j) (j:=j+1) (q:=n) E rfl rfl rfl rfl rfl EL.hS EL.sz (by omega) (by omega) hnc) ?_
  clear a E;intro a E
  refine wpList_nil ?_
  refine aC ?_
  refine wp_seq ?_
  refine wp_seq ?_
  refine wp_region_lit ?_
  refine sv E rfl rfl rfl (bD E rfl rfl) ?_
  clear a E;intro a E
  refine sv E rfl rfl rfl (bD E rfl rfl) ?_
  clear a E;intro a E
  refine sv E rfl rfl rfl (iX E rfl rfl rfl rfl) ?_
  clear a E;intro a E
  refine wpList_nil ?_
  refine aC ?_
  refine nS E rfl (fun hb=>?_) fun _=>?_
  · simp at hb;omega
  refine wp_skip ?_
  refine aC ?_
  refine wp_seq ?_
  refine wp_region_lit ?_
  refine sv E rfl rfl rfl (bD E rfl rfl) ?_
  clear a E;intro a E
  refine sv E rfl rfl rfl (uT E rfl rfl EL.hS) ?_
  clear a E;intro a E
  refine sv E rfl rfl rfl (cM E rfl rfl) ?_
  clear a E;intro a E
  refine wpList_nil ?_
  refine aC ?_
  refine wp_seq ?_
  have hI:(fun _:World=>True) { w with drawn:=w.drawn+1 }:=trivial
  refine R2 (fun _:World=>True) [(0,0),(1,0),(2,0),(3,0),(4,0),(5,0),(6,1),(7,0)] EL.mix (by kernel_rfl) (fun _ _ _ h=>False.elim h.2) hI ?_
  replace H1:=H1.kept (Kp.drawn _ w (w.drawn+1))
  generalize ({ w with drawn:=w.drawn+1 }:World)=w at H1 ⊢
  refine bW E rfl (wn rfl) rfl rfl (fun w hW=>bD E rfl rfl) ?_
  clear a E;intro a E
  refine bW E rfl (wn rfl) rfl rfl (fun w hW=>bD E rfl rfl) ?_
  clear a E;intro a E
  refine bW E rfl (wn rfl) rfl rfl (fun w hW=>Fb (i:=j) E rfl rfl rfl EL.hS EL.sz (by omega)) ?_
  clear a E;intro a E
  refine bW E rfl (wn rfl) rfl rfl (fun w hW=>bD E rfl rfl) ?_
  clear a E;intro a E
  refine bW E rfl (wn rfl) rfl rfl (fun w hW=>bD E rfl rfl) ?_
  clear a E;intro a E
  obtain ⟨q,hq,hq2⟩:∃ q:Addr,(if c=j+1 then (some ⟨g,0,none⟩:Option Addr) else (some (⟨g,0,none⟩:Addr)).map (·.add ((j+1) * z)))=some q∧(c ≠ j+1→q= ⟨g,(j+1) * z,none⟩):=by
    by_cases h:c=j+1
    · exact ⟨_,by rw [if_pos h],fun h'=>absurd h h'⟩
    · exact ⟨_,by rw [if_neg h];rfl,fun _=>by show (⟨g,0,none⟩:Addr).add _=_;rw [jM];simp⟩
  have hsl:∀ {W:World} {o:Oper} {a:Act} {env:List (Nat×Value)} (_:Env 33 a env) {x l:Operand},o.op= .slice (ρ.t 24) x (some l) none none→opv env x=some (.slice (some ⟨g,0,none⟩) n c)→opv env l=some (.int .i64 ((j+1:Nat):Int))→(execOp a.eval o).run P W= .ok (.value (.slice (some q) (n - (j+1)) (c - (j+1)))) W:=fun {W o a env} E {x l} ho hx hl=>by
    have:=Ap (P:=P) (w:=W) (i:=j+1) E ho hx hl EL.hS EL.sz (by omega)
    rw [hq] at this
    exact this
  refine bW E rfl (wn rfl) rfl rfl (fun w hW=>hsl E rfl rfl rfl) ?_
  clear a E;intro a E
  refine bZ rfl ?_
  have hus:(F.encs (xs.drop (j+1))).length=(n - (j+1)) * z:=by rw [F.encs_len,List.length_drop,hsz,hnn]
  refine Lg (i:=ix) (us:=F.encs (xs.drop (j+1))) E H1 (wn rfl) rfl rfl rfl rfl rfl EL.hS EL.sz hb (by omega) hus (fun k u hk=>?_) (by rw [hus,hcl,← Nat.add_mul];exact Nat.mul_le_mul_right _ (by omega)) (encs_one F _) ?_
  · have hkl:=(List.getElem?_eq_some_iff.1 hk).1
    rw [hus] at hkl
    have hc:c ≠ j+1:=by intro e;rw [show n - (j+1)=0 by omega,Nat.zero_mul] at hkl;omega
    rw [hq2 hc,jM]
    refine H1.blk_cell hb ?_
    rw [← F.encs_drop xs (j+1) (by omega),← hct,hsz,List.getElem?_drop,List.getElem?_take] at hk
    split at hk
    · exact hk
    · cases hk
  clear E H1;clear a;clear w;intro w a H1 E
  refine wpList_nil ?_
  refine aC ?_
  refine ⟨trivial,?_⟩
  refine bW E rfl (wn rfl) rfl rfl (fun w hW=>cM E rfl rfl) ?_
  clear a E;intro a E
  refine bR ?_
  refine aC ?_
  rw [List.set_set] at H1
  have hfit:j * z+(F.encs (xs.drop (j+1))).length ≤ cs.length:=by rw [hus,hcl,← Nat.add_mul];exact Nat.mul_le_mul_right _ (by omega)
  rw [nO _ _ _ hfit] at H1
  obtain ⟨cs2,hcs2⟩:∃ cs2,cs2=cs.take (j * z) ++ F.encs (xs.drop (j+1)) ++ cs.drop (j * z+(F.encs (xs.drop (j+1))).length):=⟨_,rfl⟩
  rw [← hcs2] at H1
  have hb2:(os.set ix (Blk g T cs2))[ix]? =some (Blk g T cs2):=List.getElem?_set_self hil
  have hcl2:cs2.length=c * z:=by rw [hcs2,List.length_append,List.length_append,List.length_take,List.length_drop,hus,hcl];omega
  have hct2:cs2.take ((n - 1) * z)=F.encs (xs.eraseIdx j):=by
    have e0:cs.take (j * z)=F.encs (xs.take j):=by
      rw [← hsz,← F.encs_take xs j (by omega),← hct,hsz,List.take_take]
      rw [Nat.min_eq_left (Nat.mul_le_mul_right _ (by omega))]
    rw [hcs2,e0,← F.encs_app,← List.eraseIdx_eq_take_drop_succ]
    have e3:(F.encs (xs.eraseIdx j)).length=(n - 1) * z:=by rw [F.encs_len,List.length_eraseIdx,if_pos (by omega),hsz,hnn]
    rw [← e3,List.take_append_of_le_length (Nat.le_refl _),List.take_length]
  refine wp_seq ?_
  refine wp_region_lit ?_
  refine sv E rfl rfl rfl (bD E rfl rfl) ?_
  clear a E;intro a E
  refine sv E rfl rfl rfl (bD E rfl rfl) ?_
  clear a E;intro a E
  refine sv E rfl rfl rfl (uT E rfl rfl EL.hS) ?_
  clear a E;intro a E
  refine sv E rfl rfl rfl (bD E rfl rfl) ?_
  clear a E;intro a E
  refine sv E rfl rfl rfl (Py (i:=j+(n - (j+1))) (j:=n) E rfl rfl rfl rfl EL.hS EL.sz (by omega) hnc) ?_
  clear a E;intro a E
  have hlen:j+(n - (j+1))=n - 1:=by omega
  have hm1:n - (n - 1)=1:=by omega
  rw [hlen,if_neg (show c ≠ n - 1 by omega),show Option.map (fun x:Addr=>x.add ((n - 1) * z)) (some ⟨g,0,none⟩)=some ⟨g,(n - 1) * z,none⟩ from by show some ((⟨g,0,none⟩:Addr).add _)=_;rw [jM];simp,hm1] at E
  have hn1:(n - 1) * z+z ≤ c * z:=by rw [← Nat.succ_mul];exact Nat.mul_le_mul_right _ (by omega)
  refine Jq (i:=ix) (m:=1) (off:=(n - 1) * z) (us:=zs) E H1 (wn rfl) rfl rfl rfl (by decide) EL.hS EL.zr hb2 EL.zc (by rw [hcl2,EL.zl];exact hn1) (fun u hu=>List.all_eq_true.1 EL.one u hu) ?_
  clear H1;clear w;intro w H1
  refine wpList_nil ?_
  refine aC ?_
  refine wp_seq ?_
  refine wp_region_lit ?_
  refine sv E rfl rfl rfl (bD E rfl rfl) ?_
  clear a E;intro a E
  refine sv E rfl rfl rfl (cM E rfl rfl) ?_
  clear a E;intro a E
  refine wpList_nil ?_
  refine aC ?_
  refine wp_ret ?_
  refine aY E hr rfl ?_
  rw [List.set_set] at H1
  have hfit3:(n - 1) * z+zs.length ≤ cs2.length:=by rw [hcl2,EL.zl];exact hn1
  rw [nO _ _ _ hfit3] at H1
  have hb3:(os.set ix (Blk g T (cs2.take ((n - 1) * z) ++ zs ++ cs2.drop ((n - 1) * z+zs.length))))[ix]? =some (Blk g T _):=List.getElem?_set_self hil
  have H2:=H1.blkRow (xs:=xs.eraseIdx j) (n:=n - 1) (c:=c) F hb3 (by rw [List.length_eraseIdx,if_pos (by omega),hnn]) (by omega) hcm (by rw [List.length_append,List.length_append,List.length_take,List.length_drop,hcl2,hsz];rw [EL.zl];omega)
    (by rw [hsz,← hct2,List.append_assoc,List.take_append_of_le_length (by rw [List.length_take,hcl2];omega),List.take_take];congr 1;omega)
  rw [List.set_set] at H2
  exact H2
theorem Fw(EL:El P ρ T z zs bt){w:World}{g g2 la ca lb cb off:Nat}{cs cs2:Array Value}(hne:g2 ≠ g)(h1:w.heap[g]? =some (.cells cs T (0,0)))(h2:w.heap[g2]? =some (.cells cs2 T (0,0))) :
    (Extern.SlicesOverlaps.overlaps #[ρ.t 24,ρ.t 24] #[ρ.t 4] #[.slice (some ⟨g2,0,none⟩) la ca,.slice (some ⟨g,off,none⟩) lb cb]).run P w= .ok (.bool false) w:=by
  have hf1:∀ o,w.frozen? ⟨g,o,none⟩=false:=fun o=>by simp [World.frozen?,h1]
  have hf2:∀ o,w.frozen? ⟨g2,o,none⟩=false:=fun o=>by simp [World.frozen?,h2]
  have e:Extern.SlicesOverlaps.overlaps #[ρ.t 24,ρ.t 24] #[ρ.t 4] #[.slice (some ⟨g2,0,none⟩) la ca,.slice (some ⟨g,off,none⟩) lb cb]=(do
      let .slice elem ← underlying (ρ.t 24) | stuck "slices.overlaps: slice type expected"
      let size ← sizeOf elem
      let a:Addr:=⟨g2,0,none⟩
      let b:Addr:=⟨g,off,none⟩
      if la=0∨lb=0∨size=0 then pure (.bool false)
      else if a.block != b.block && (← frozen a) && (← frozen b) then unsupported .addressObserved
      else do
        if a.block != b.block then do
          noView a;noView b
          if ← mayBeOne a b then return .bool ((← choose (.extern "sameAddr.stringBytes" 2)) == 1)
        pure (.bool (a.block == b.block && a.off < b.off+lb * size && b.off < a.off+la * size))):=rfl
  have hs1:w.shape? g=some (T,cs.size):=by simp [World.shape?,h1]
  have hs2:w.shape? g2=some (T,cs2.size):=by simp [World.shape?,h2]
  rw [e]
  simp [Sem.run_bind,run_underlying EL.hS,fT EL.sz,hne,frozen,Sem.run,hf1,hf2,noView,viewAt,mayBeOne,stringish,shape,getObj,h1,h2,hs1,hs2]
section
variable {w:World} {os os':List Ob} {rs:List Rp}
theorem Sep.sub (H:Sep w os rs) (g:Nat→Nat) (h:∀ (i:Nat) (o:Ob),os'[i]? =some o→∃ k,os[k]? =some o∧g k=i):Sep w os' rs:=by
  obtain ⟨col,h1,h2⟩:=H
  refine ⟨fun b=>if col b=0 then 0 else g (col b - 1)+1,fun i o hi=>?_,fun r hr=>r.keep (h2 r hr) (Kp.refl _ _) fun b _ hb=>by show (if col b=0 then 0 else _)=0;rw [if_pos hb]⟩
  obtain ⟨k,hk,hg⟩:=h i o hi
  refine o.keep (h1 k o hk) (Kp.refl _ _) (fun b _ hb=>?_) (fun b _ hb=>by show (if col b=0 then 0 else _)=0;rw [if_pos hb])
  show (if col b=0 then 0 else g (col b - 1)+1)=i+1
  rw [if_neg (by omega),show col b - 1=k from by omega,hg]
/-- the first object comes in the place of another. -/
theorem Sep.inst {x:Ob} {i:Nat} (H:Sep w (x::os) rs) (hi:i < os.length):Sep w (os.set i x) rs:=by
  refine H.sub (fun k=>if k=0 then i else if k=i+1 then os.length+5 else k - 1) fun j o hj=>?_
  by_cases e:i=j
  · subst e
    rw [List.getElem?_set_self hi] at hj
    exact ⟨0,by simpa using hj,by simp⟩
  · rw [List.getElem?_set_ne e] at hj
    exact ⟨j+1,by simpa using hj,by rw [if_neg (by omega),if_neg (by omega)];omega⟩
end
theorem Cm(p q:Nat)(hp:p ≤ 4000000)(hq:q ≤ 4000000):IntKind.i64.wrap ((p:Int)+(q:Int))=((p+q:Nat):Int):=by
  unfold IntKind.wrap;simp [IntKind.bits,IntKind.signed];omega
theorem AL(p q:Nat)(hp:p ≤ 4000000)(hq:q ≤ p):IntKind.i64.wrap ((p:Int) - (q:Int))=((p - q:Nat):Int):=by
  have:(p:Int) - (q:Int)=((p - q:Nat):Int):=by omega
  rw [this]
  unfold IntKind.wrap;simp [IntKind.bits,IntKind.signed];omega
theorem Yn{g c i:Nat}(h:c ≠ i):(if c=i then (some ⟨g,0,none⟩:Option Addr) else (some (⟨g,0,none⟩:Addr)).map (·.add (i * z)))=some ⟨g,i * z,none⟩:=by
  rw [if_neg h]
  show some ((⟨g,0,none⟩:Addr).add _)=_
  rw [jM];simp
theorem Ad(EL:El P ρ T z zs bt){g c m i:Nat}(h:c ≠ i)(hi:i ≤ m){W:World}{o:Oper}{a:Act}{k:Nat}{env:List (Nat×Value)}(E:Env k a env){x l:Operand}{q:IntKind}(ho:o.op= .slice (ρ.t 24) x (some l) none none)(hx:opv env x=some (.slice (some ⟨g,0,none⟩) m c))(hl:opv env l=some (.int q (i:Int))) :
    (execOp a.eval o).run P W= .ok (.value (.slice (some ⟨g,i * z,none⟩) (m - i) (c - i))) W:=by
  have:=Ap (P:=P) (w:=W) (i:=i) E ho hx hl EL.hS EL.sz hi
  rw [Yn h] at this
  exact this
theorem Ma(F:eJ d)(EL:El P ρ T z zs bt)(hsz:d.sz=z){fid:FuncId}{fn:Func}(hf:P.funcs[fid]? =some fn)(hbd:fn.body=(Body2.n22 ρ).body)(hm:fn.ntmps=95)(hr:fn.results= #[.tmp 6]){fo:Func}(ho:P.funcs[ρ.f 29]? =some fo)(hona:(fo.name == "runtime.NumGoroutine")=false)(hob:fo.body.isNone=true)(hon:(Extern.findNext fo).isNone=true)(hof:Extern.find fo=some (Extern.SlicesOverlaps.overlaps #[ρ.t 24,ρ.t 24] #[ρ.t 4])){w:World}{os:List Ob}{rs:List Rp}{ix iu:Nat}{v u:Value}{xs:List α}{y:α}(H:Sep w os rs)(hi:os[ix]? =some (Row T d v xs))(hu:os[iu]? =some (Row T d u [y]))(hne:ix ≠ iu){a:Int}(ha:0 ≤ a∧a ≤ xs.length∧0 < xs.length∧xs.length ≤ 1000000) :
    Calls P fid [v,.int .i64 a,u].toArray w (Ret fun v' w'=>Sep w' (os.set ix (Row T d v' (xs.take a.toNat ++ y::xs.drop a.toNat))) rs):=by
  obtain ⟨h0,hlt,hpos,hbig⟩:=ha
  obtain ⟨j,rfl⟩:∃ j:Nat,a=(j:Int):=⟨a.toNat,by omega⟩
  have hj:j ≤ xs.length:=by omega
  have hix:idx xs 0=some xs[0]:=by unfold idx;rw [if_pos (by omega)];simp [hpos]
  obtain ⟨g,c,rfl⟩:=H.rowformNE hi hix
  obtain ⟨g2,c2,hu2⟩:=H.rowformNE hu (j:=0) (y:=y) rfl
  have hu2:u= .slice (some ⟨g2,0,none⟩) 1 c2:=hu2
  subst hu2
  have hil:ix < os.length:=(List.getElem?_eq_some_iff.1 hi).1
  have hul:iu < os.length:=(List.getElem?_eq_some_iff.1 hu).1
  obtain ⟨cs,H1,hn,hnc,hcm,hcl,hct⟩:=H.rowBlk F hi
  have hu1:(os.set ix (Blk g T cs))[iu]? =some (Row T d (.slice (some ⟨g2,0,none⟩) 1 c2) [y]):=by rw [List.getElem?_set_ne hne];exact hu
  obtain ⟨cs2,H2,hn2,hnc2,hcm2,hcl2,hct2⟩:=H1.rowBlk F hu1
  rw [hsz] at hcl hct hcl2 hct2
  rw [F.encs_one] at hct2
  obtain ⟨n,hnn⟩:∃ n,n=xs.length:=⟨_,rfl⟩
  rw [← hnn] at hj hnc hct hn hpos hbig ⊢
  have hgne:g2 ≠ g:=by
    obtain ⟨col,h1,_⟩:=H
    obtain ⟨_,_,_,o1⟩:=h1 ix _ hi
    obtain ⟨_,_,_,o2⟩:=h1 iu _ hu
    have e1:=o1 g rfl
    have e2:=o2 g2 rfl
    intro e
    rw [e] at e2
    omega
  refine enter hf hbd hm rfl fun a E=>?_
  simp only [pG,Nat.reduceAdd] at E
  refine wp_seq ?_
  refine wp_region_lit ?_
  refine sv E rfl rfl rfl (cM E rfl rfl) ?_
  clear a E;intro a E
  refine wpList_nil ?_
  refine aC ?_
  refine wp_seq ?_
  refine wp_region_lit ?_
  refine sv E rfl rfl rfl (bD E rfl rfl) ?_
  clear a E;intro a E
  refine sv E rfl rfl rfl (bD E rfl rfl) ?_
  clear a E;intro a E
  refine sv E rfl rfl rfl (Ap (i:=j) E rfl rfl rfl EL.hS EL.sz hj) ?_
  clear a E;intro a E
  refine wpList_nil ?_
  refine aC ?_
  refine wp_seq ?_
  refine wp_region_lit ?_
  refine sv E rfl rfl rfl (bD E rfl rfl) ?_
  clear a E;intro a E
  refine sv E rfl rfl rfl (uT E rfl rfl EL.hS) ?_
  clear a E;intro a E
  refine sv E rfl rfl rfl (cM E rfl rfl) ?_
  clear a E;intro a E
  refine wpList_nil ?_
  refine aC ?_
  refine wp_seq ?_
  refine wp_seq ?_
  refine wp_region_lit ?_
  refine sv E rfl rfl rfl (bD E rfl rfl) ?_
  clear a E;intro a E
  refine sv E rfl rfl rfl (iX E rfl rfl rfl rfl) ?_
  clear a E;intro a E
  refine wpList_nil ?_
  refine aC ?_
  refine nS E rfl (fun hb=>by simp at hb) fun _=>?_
  refine wp_skip ?_
  refine aC ?_
  refine wp_seq ?_
  refine wp_region_lit ?_
  refine sv E rfl rfl rfl (bD E rfl rfl) ?_
  clear a E;intro a E
  refine sv E rfl rfl rfl (uT E rfl rfl EL.hS) ?_
  clear a E;intro a E
  refine sv E rfl rfl rfl (cM E rfl rfl) ?_
  clear a E;intro a E
  refine wpList_nil ?_
  refine aC ?_
  refine wp_seq ?_
  refine wp_seq ?_
  refine wp_region_lit ?_
  refine sv E rfl rfl rfl (bD E rfl rfl) ?_
  clear a E;intro a E
  refine sv E rfl rfl rfl (bD E rfl rfl) ?_
  clear a E;intro a E
  refine sv E rfl rfl rfl (iX E rfl rfl rfl rfl) ?_
  clear a E;intro a E
  refine wpList_nil ?_
  refine aC ?_
  refine nS E rfl (fun hb=>?_) fun hb=>?_
  · have hjn:j=n:=by
      have:(j:Int)=(n:Int):=by simpa using hb
      omega
    refine wp_seq ?_
    refine wp_region_lit ?_
    refine sv E rfl rfl rfl (bD E rfl rfl) ?_
    clear a E;intro a E
    refine sv E rfl rfl rfl (bD E rfl rfl) ?_
    clear a E;intro a E
    have hi':os[ix]? =some (Row T d (.slice (some ⟨g,0,none⟩) n c) xs):=by rw [hnn];exact hi
    refine dV (i:=ix) E H (wn rfl) rfl rfl rfl rfl rfl hi' (R1 hu) EL.hS (by rw [hsz];exact EL.inf) (by rw [hsz];exact EL.zs0) (by show xs.length+1 ≤ 274877906944;omega) EL.bl ?_
    clear E H;clear a;intro v3 w' a H E
    refine sv E rfl rfl rfl (cM E rfl rfl) ?_
    clear a E;intro a E
    refine wpList_nil ?_
    refine aC ?_
    refine wp_ret ?_
    refine aP ?_
    refine aY E hr rfl ?_
    have e:xs.take ((j:Int)).toNat ++ y::xs.drop ((j:Int)).toNat=xs ++ [y]:=by
      show xs.take j ++ y::xs.drop j=_
      rw [hjn,hnn,List.take_length,List.drop_length]
    rw [e]
    exact H
  refine wp_skip ?_
  refine aC ?_
  have hjn:j ≠ n:=by
    intro e
    rw [e] at hb
    simp at hb
  have hjlt:j < n:=by omega
  clear H
  have hb1:((os.set ix (Blk g T cs)).set iu (Blk g2 T cs2))[ix]? =some (Blk g T cs):=by rw [List.getElem?_set_ne (Ne.symm hne),List.getElem?_set_self hil]
  have hb2:((os.set ix (Blk g T cs)).set iu (Blk g2 T cs2))[iu]? =some (Blk g2 T cs2):=List.getElem?_set_self (by rw [List.length_set];exact hul)
  have hey:∀ {W:World} {O:List Ob} {R:List Rp} (_:Sep W O R) {i:Nat} (_:O[i]? =some (Blk g2 T cs2)),∀ q u,(F.enc y)[q]? =some u→W.cell? ((⟨g2,0,none⟩:Addr).add q)=some u:=fun {W O R} HH {i} hO q u hq=>by
    rw [jM,Nat.zero_add]
    refine HH.blk_cell hO ?_
    rw [← hct2,List.getElem?_take] at hq
    split at hq
    · exact hq
    · cases hq
  have hexs:∀ q u,(F.encs (xs.drop j))[q]? =some u→cs[j * z+q]? =some u:=fun q u hq=>by
    rw [← F.encs_drop xs j (by omega),← hct,hsz,List.getElem?_drop,List.getElem?_take] at hq
    split at hq
    · exact hq
    · cases hq
  have hdl:(F.encs (xs.drop j)).length=(n - j) * z:=by rw [F.encs_len,List.length_drop,hsz,hnn]
  have hel:(F.enc y).length=z:=by rw [F.len,hsz]
  have hety:cs.take (j * z)=F.encs (xs.take j):=by
    rw [← hsz,← F.encs_take xs j (by omega),← hct,hsz,List.take_take]
    rw [Nat.min_eq_left (Nat.mul_le_mul_right _ (by omega))]
  refine wp_seq ?_
  refine wp_seq ?_
  refine wp_region_lit ?_
  refine sv E rfl rfl rfl (bD E rfl rfl) ?_
  clear a E;intro a E
  refine sv E rfl rfl rfl (bD E rfl rfl) ?_
  clear a E;intro a E
  refine sv E rfl rfl rfl (iX E rfl rfl rfl rfl) ?_
  clear a E;intro a E
  rw [Cm n 1 (by omega) (by omega)] at E
  refine sv E rfl rfl rfl (bD E rfl rfl) ?_
  clear a E;intro a E
  refine sv E rfl rfl rfl (Uk E rfl rfl EL.hS) ?_
  clear a E;intro a E
  refine sv E rfl rfl rfl (iX E rfl rfl rfl rfl) ?_
  clear a E;intro a E
  refine wpList_nil ?_
  refine aC ?_
  refine nS E rfl (fun hb=>?_) fun hb=>?_
  · -- a new row
    have hcn:c < n+1:=by have:=of_decide_eq_true hb;omega
    refine wp_seq ?_
    refine wp_region_lit ?_
    refine sv E rfl rfl rfl (bD E rfl rfl) ?_
    clear a E;intro a E
    refine sv E rfl rfl rfl (bD E rfl rfl) ?_
    clear a E;intro a E
    refine sv E rfl rfl rfl (Fb (i:=j) E rfl rfl rfl EL.hS EL.sz (by omega)) ?_
    clear a E;intro a E
    refine sv E rfl rfl rfl (bD E rfl rfl) ?_
    clear a E;intro a E
    refine sv E rfl rfl rfl (bD E rfl rfl) ?_
    clear a E;intro a E
    refine sv E rfl rfl rfl (iX E rfl rfl rfl rfl) ?_
    clear a E;intro a E
    rw [Cm n 1 (by omega) (by omega)] at E
    refine sv E rfl rfl rfl (bD E rfl rfl) ?_
    clear a E;intro a E
    refine sv E rfl rfl rfl (iX E rfl rfl rfl rfl) ?_
    clear a E;intro a E
    rw [AL (n+1) j (by omega) (by omega)] at E
    refine Hl (olds:=F.encs (xs.take j)) (sl:=j) (sc:=c) (m:=n+1 - j) E H2 (wn rfl) rfl rfl rfl rfl rfl EL.hS EL.hI EL.inf EL.zs0 EL.pos (by rw [F.encs_len,List.length_take,hsz];congr 1;omega) (fun q u hq=>?_) (by omega) (by omega) (by rw [show j+(n+1 - j)=n+1 by omega];exact Nat.le_trans (Nat.mul_le_mul (show n+1 ≤ 1000001 by omega) (Nat.le_of_ble_eq_true EL.bl)) (by decide)) (by simp only [maxLen];omega) ?_
    · refine H2.blk_cell hb1 ?_
      rw [← hety,List.getElem?_take] at hq
      split at hq
      · exact hq
      · cases hq
    clear E H2;clear a;intro g' c' w' a hc1 hc2 H E
    have ejn:j+(n+1 - j)=n+1:=by omega
    rw [ejn] at hc1 H E
    refine sv E rfl rfl rfl (cM E rfl rfl) ?_
    clear a E;intro a E
    refine wpList_nil ?_
    refine aC ?_
    obtain ⟨os3,hos3⟩:∃ os3,os3=(os.set ix (Blk g T cs)).set iu (Blk g2 T cs2):=⟨_,rfl⟩
    rw [← hos3] at H hb1 hb2
    obtain ⟨cz,hcz⟩:∃ cz,cz=F.encs (xs.take j) ++ (Builtin.zeroCells (Value.agg zs.toArray).cells (n+1 - j)).toList ++ (Builtin.zeroCells (Value.agg zs.toArray).cells (c' - (n+1))).toList:=⟨_,rfl⟩
    have hzs:(Value.agg zs.toArray).cells.size=z:=EL.zs0
    have hczl:cz.length=c' * z:=by
      have zk:∀ k,(Builtin.zeroCells (Value.agg zs.toArray).cells k).toList.length=k * z:=fun k=>by
        rw [Array.length_toList,size_zeroCells,hzs]
      have z0:(F.encs (xs.take j)).length=j * z:=by rw [F.encs_len,List.length_take,hsz];congr 1;omega
      rw [hcz,List.length_append,List.length_append,zk,zk,z0,← Nat.add_mul,← Nat.add_mul]
      congr 1;omega
    have hczt:cz.take (j * z)=F.encs (xs.take j):=by
      have e:(F.encs (xs.take j)).length=j * z:=by rw [F.encs_len,List.length_take,hsz];congr 1;omega
      rw [hcz,List.append_assoc,← e]
      exact List.take_left
    rw [← hcz] at H
    refine wp_seq ?_
    refine wp_region_lit ?_
    refine sv E rfl rfl rfl (bD E rfl rfl) ?_
    clear a E;intro a E
    refine sv E rfl rfl rfl (bD E rfl rfl) ?_
    clear a E;intro a E
    refine sv E rfl rfl rfl (Ad EL (i:=j) (m:=n+1) (c:=c') (by omega) (by omega) E rfl rfl rfl) ?_
    clear a E;intro a E
    refine sv E rfl rfl rfl (bD E rfl rfl) ?_
    clear a E;intro a E
    have hjz:(j+1) * z=j * z+z:=Nat.succ_mul j z
    have hcz:(j+1) * z ≤ c' * z:=Nat.mul_le_mul_right _ (by omega)
    have hfz:(j+1) * z+(n - j) * z ≤ c' * z:=by rw [← Nat.add_mul];exact Nat.mul_le_mul_right _ (by omega)
    refine R5 (i:=0) (m:=1) (us:=F.enc y) E H (wn rfl) rfl rfl rfl rfl rfl EL.hS EL.sz rfl (by omega) (by rw [hel,Nat.one_mul]) (hey H (i:=iu+1) (by simpa using hb2)) (by rw [hel,hczl];omega) (Ck F y) ?_
    clear E H;clear a;clear w';intro w' a H E
    refine wpList_nil ?_
    refine aC ?_
    rw [nO _ _ _ (by rw [hel,hczl];omega),hczt] at H
    refine wp_seq ?_
    have hI:(fun _:World=>True) { w' with drawn:=w'.drawn+1 }:=trivial
    refine R2 (fun _:World=>True) [(0,0),(1,0),(2,0),(3,0),(4,0),(5,0),(6,0),(7,0),(8,1)] EL.mix (by kernel_rfl) (fun _ _ _ h=>False.elim h.2) hI ?_
    replace H:=H.kept (Kp.drawn _ w' (w'.drawn+1))
    generalize ({ w' with drawn:=w'.drawn+1 }:World)=w' at H ⊢
    refine bW E rfl (wn rfl) rfl rfl (fun w hW=>bD E rfl rfl) ?_
    clear a E;intro a E
    refine bW E rfl (wn rfl) rfl rfl (fun w hW=>bD E rfl rfl) ?_
    clear a E;intro a E
    refine bW E rfl (wn rfl) rfl rfl (fun w hW=>bD E rfl rfl) ?_
    clear a E;intro a E
    refine bW E rfl (wn rfl) rfl rfl (fun w hW=>iX E rfl rfl rfl rfl) ?_
    clear a E;intro a E
    rw [Cm j 1 (by omega) (by omega)] at E
    refine bW E rfl (wn rfl) rfl rfl (fun w hW=>Ad EL (i:=j+1) (m:=n+1) (c:=c') (by omega) (by omega) E rfl rfl rfl) ?_
    clear a E;intro a E
    refine bW E rfl (wn rfl) rfl rfl (fun w hW=>bD E rfl rfl) ?_
    clear a E;intro a E
    refine bW E rfl (wn rfl) rfl rfl (fun w hW=>bD E rfl rfl) ?_
    clear a E;intro a E
    refine bW E rfl (wn rfl) rfl rfl (fun w hW=>Ad EL (i:=j) (m:=n) (c:=c) (by omega) (by omega) E rfl rfl rfl) ?_
    clear a E;intro a E
    refine bZ rfl ?_
    have hml:(F.encs (xs.take j) ++ F.enc y ++ cz.drop (j * z+(F.enc y).length)).length=c' * z:=by
      rw [List.length_append,List.length_append,F.encs_len,List.length_take,List.length_drop,hel,hczl,hsz,Nat.min_eq_left (show j ≤ xs.length by omega)];omega
    have hb3:(Blk g' T (F.encs (xs.take j) ++ F.enc y ++ cz.drop (j * z+(F.enc y).length))::os3)[ix+1]? =some (Blk g T cs):=by simpa using hb1
    refine R5 (i:=0) (m:=n - j) (us:=F.encs (xs.drop j)) E H (wn rfl) rfl rfl rfl rfl rfl EL.hS EL.sz rfl (by omega) hdl (fun q u hq=>?_) (by rw [hdl,hml];omega) (encs_one F _) ?_
    · rw [jM]
      exact H.blk_cell hb3 (hexs q u hq)
    clear E H;clear a;clear w';intro w' a H E
    refine wpList_nil ?_
    refine aC ?_
    refine ⟨trivial,?_⟩
    refine bR ?_
    refine aC ?_
    rw [nO _ _ _ (by rw [hdl,hml];omega)] at H
    refine wp_seq ?_
    refine wp_region_lit ?_
    refine sv E rfl rfl rfl (bD E rfl rfl) ?_
    clear a E;intro a E
    refine sv E rfl rfl rfl (cM E rfl rfl) ?_
    clear a E;intro a E
    refine wpList_nil ?_
    refine aC ?_
    refine wp_ret ?_
    refine aP ?_
    refine aY E hr rfl ?_
    have e5:(F.encs (xs.take j) ++ F.enc y).length=(j+1) * z:=by
      rw [List.length_append,F.encs_len,List.length_take,hel,hsz,Nat.min_eq_left (show j ≤ xs.length by omega)];omega
    have e6:(F.encs (xs.take j) ++ F.enc y ++ cz.drop (j * z+(F.enc y).length)).take ((j+1) * z)=F.encs (xs.take j ++ [y]):=by
      rw [← e5,List.take_left,F.encs_app,F.encs_one]
    have e7:∀ R:List Value,((F.encs (xs.take j) ++ F.enc y ++ cz.drop (j * z+(F.enc y).length)).take ((j+1) * z) ++ F.encs (xs.drop j) ++ R).take ((n+1) * z)=F.encs (xs.take j ++ y::xs.drop j):=fun R=>by
      rw [e6,← F.encs_app,List.append_assoc,List.singleton_append]
      have:(F.encs (xs.take j ++ y::xs.drop j)).length=(n+1) * z:=by
        rw [F.encs_len,List.length_append,List.length_cons,List.length_take,List.length_drop,hsz,← hnn];congr 1;omega
      rw [← this]
      exact List.take_left
    have hcl4:((F.encs (xs.take j) ++ F.enc y ++ cz.drop (j * z+(F.enc y).length)).take ((j+1) * z) ++ F.encs (xs.drop j) ++ (F.encs (xs.take j) ++ F.enc y ++ cz.drop (j * z+(F.enc y).length)).drop ((j+1) * z+(F.encs (xs.drop j)).length)).length=c' * z:=by
      rw [List.length_append,List.length_append,List.length_take,List.length_drop,hml,hdl];omega
    have H5:=H.blkRow (i:=0) (xs:=xs.take j ++ y::xs.drop j) (n:=n+1) (c:=c') F rfl (by rw [List.length_append,List.length_cons,List.length_take,List.length_drop,← hnn];omega) hc1 hc2 (by rw [hsz];exact hcl4) (by rw [hsz];exact e7 _)
    have H6:Sep w' (os3.set ix (Row T d (.slice (some ⟨g',0,none⟩) (n+1) c') (xs.take j ++ y::xs.drop j))) rs:=Sep.inst H5 (by rw [hos3];simpa using hil)
    have H7:=H6.blkRow (i:=iu) (g:=g2) (cs:=cs2) (xs:=[y]) (n:=1) (c:=c2) F (by rw [List.getElem?_set_ne hne];exact hb2) rfl hnc2 hcm2 (by rw [hsz];exact hcl2) (by rw [hsz,F.encs_one];exact hct2)
    have e8:(os3.set ix (Row T d (.slice (some ⟨g',0,none⟩) (n+1) c') (xs.take j ++ y::xs.drop j))).set iu (Row T d (.slice (some ⟨g2,0,none⟩) 1 c2) [y])=os.set ix (Row T d (.slice (some ⟨g',0,none⟩) (n+1) c') (xs.take j ++ y::xs.drop j)):=by
      rw [hos3]
      apply List.ext_getElem?
      intro q
      by_cases q1:iu=q
      · subst q1
        rw [List.getElem?_set_self (by simpa using hul),List.getElem?_set_ne hne,hu]
      · rw [List.getElem?_set_ne q1]
        by_cases q2:ix=q
        · subst q2
          rw [List.getElem?_set_self (by simpa using hil),List.getElem?_set_self hil]
        · rw [List.getElem?_set_ne q2,List.getElem?_set_ne q1,List.getElem?_set_ne q2,List.getElem?_set_ne q2]
    rw [e8] at H7
    exact H7
  · -- in place
    have hcn:n+1 ≤ c:=by have:=of_decide_eq_false hb;omega
    refine wp_skip ?_
    refine aC ?_
    refine wp_seq ?_
    refine wp_region_lit ?_
    refine sv E rfl rfl rfl (bD E rfl rfl) ?_
    clear a E;intro a E
    refine sv E rfl rfl rfl (bD E rfl rfl) ?_
    clear a E;intro a E
    refine sv E rfl rfl rfl (bD E rfl rfl) ?_
    clear a E;intro a E
    refine sv E rfl rfl rfl (iX E rfl rfl rfl rfl) ?_
    clear a E;intro a E
    rw [Cm n 1 (by omega) (by omega)] at E
    refine sv E rfl rfl rfl (Fb (i:=n+1) E rfl rfl rfl EL.hS EL.sz hcn) ?_
    clear a E;intro a E
    refine sv E rfl rfl rfl (cM E rfl rfl) ?_
    clear a E;intro a E
    refine wpList_nil ?_
    refine aC ?_
    refine wp_seq ?_
    refine wp_seq ?_
    refine wp_region_lit ?_
    refine sv E rfl rfl rfl (bD E rfl rfl) ?_
    clear a E;intro a E
    refine sv E rfl rfl rfl (bD E rfl rfl) ?_
    clear a E;intro a E
    refine sv E rfl rfl rfl (bD E rfl rfl) ?_
    clear a E;intro a E
    refine sv E rfl rfl rfl (bD E rfl rfl) ?_
    clear a E;intro a E
    refine sv E rfl rfl rfl (iX E rfl rfl rfl rfl) ?_
    clear a E;intro a E
    rw [Cm j 1 (by omega) (by omega)] at E
    refine sv E rfl rfl rfl (Ad EL (i:=j+1) (m:=n+1) (c:=c) (by omega) (by omega) E rfl rfl rfl) ?_
    clear a E;intro a E
    refine sv E rfl rfl rfl (R4 E rfl rfl (Fa ho hona hob hon hof (Fw EL (g:=g) (g2:=g2) hgne (H2.blk hb1) (H2.blk hb2)))) ?_
    clear a E;intro a E
    refine sv E rfl rfl rfl (Mi E rfl rfl) ?_
    clear a E;intro a E
    refine wpList_nil ?_
    refine aC ?_
    refine nS E rfl (fun _=>?_) fun h=>by cases h
    refine wp_seq ?_
    have hI:(fun _:World=>True) { w with drawn:=w.drawn+1 }:=trivial
    refine R2 (fun _:World=>True) [(0,0),(1,0),(2,0),(3,0),(4,0),(5,0),(6,0),(7,0),(8,1)] EL.mix (by kernel_rfl) (fun _ _ _ h=>False.elim h.2) hI ?_
    replace H2:=H2.kept (Kp.drawn _ w (w.drawn+1))
    clear H1
    generalize ({ w with drawn:=w.drawn+1 }:World)=w' at H2 ⊢
    refine bW E rfl (wn rfl) rfl rfl (fun w hW=>bD E rfl rfl) ?_
    clear a E;intro a E
    refine bW E rfl (wn rfl) rfl rfl (fun w hW=>bD E rfl rfl) ?_
    clear a E;intro a E
    refine bW E rfl (wn rfl) rfl rfl (fun w hW=>bD E rfl rfl) ?_
    clear a E;intro a E
    refine bW E rfl (wn rfl) rfl rfl (fun w hW=>iX E rfl rfl rfl rfl) ?_
    clear a E;intro a E
    rw [Cm j 1 (by omega) (by omega)] at E
    refine bW E rfl (wn rfl) rfl rfl (fun w hW=>Ad EL (i:=j+1) (m:=n+1) (c:=c) (by omega) (by omega) E rfl rfl rfl) ?_
    clear a E;intro a E
    refine bW E rfl (wn rfl) rfl rfl (fun w hW=>bD E rfl rfl) ?_
    clear a E;intro a E
    refine bW E rfl (wn rfl) rfl rfl (fun w hW=>bD E rfl rfl) ?_
    clear a E;intro a E
    refine bW E rfl (wn rfl) rfl rfl (fun w hW=>Ad EL (i:=j) (m:=n+1) (c:=c) (by omega) (by omega) E rfl rfl rfl) ?_
    clear a E;intro a E
    refine bZ rfl ?_
    have hfz:(j+1) * z+(n - j) * z ≤ c * z:=by rw [← Nat.add_mul];exact Nat.mul_le_mul_right _ (by omega)
    have hjz:(j+1) * z=j * z+z:=Nat.succ_mul j z
    have hcz:(j+1) * z ≤ c * z:=by exact Nat.mul_le_mul_right _ (by omega)
    refine R5 (i:=ix) (m:=n - j) (us:=F.encs (xs.drop j)) E H2 (wn rfl) rfl rfl rfl rfl rfl EL.hS EL.sz hb1 (by omega) hdl (fun q u hq=>?_) (by rw [hdl,hcl];exact hfz) (encs_one F _) ?_
    · rw [jM]
      exact H2.blk_cell hb1 (hexs q u hq)
    clear E H2;clear a;clear w';intro w' a H E
    refine wpList_nil ?_
    refine aC ?_
    refine ⟨trivial,?_⟩
    refine bR ?_
    refine aC ?_
    rw [nO _ _ _ (by rw [hdl,hcl];exact hfz)] at H
    obtain ⟨cs3,hcs3⟩:∃ cs3,cs3=cs.take ((j+1) * z) ++ F.encs (xs.drop j) ++ cs.drop ((j+1) * z+(F.encs (xs.drop j)).length):=⟨_,rfl⟩
    rw [← hcs3] at H
    have hcl3:cs3.length=c * z:=by rw [hcs3,List.length_append,List.length_append,List.length_take,List.length_drop,hdl,hcl];omega
    obtain ⟨os3,hos3⟩:∃ os3,os3=(os.set ix (Blk g T cs)).set iu (Blk g2 T cs2):=⟨_,rfl⟩
    rw [← hos3] at H hb1 hb2
    have hl3:os3.length=os.length:=by rw [hos3];simp
    have hb3:(os3.set ix (Blk g T cs3))[ix]? =some (Blk g T cs3):=List.getElem?_set_self (by omega)
    have hb4:(os3.set ix (Blk g T cs3))[iu]? =some (Blk g2 T cs2):=by rw [List.getElem?_set_ne hne];exact hb2
    refine wp_seq ?_
    refine wp_region_lit ?_
    refine sv E rfl rfl rfl (bD E rfl rfl) ?_
    clear a E;intro a E
    refine sv E rfl rfl rfl (bD E rfl rfl) ?_
    clear a E;intro a E
    refine sv E rfl rfl rfl (Ad EL (i:=j) (m:=n+1) (c:=c) (by omega) (by omega) E rfl rfl rfl) ?_
    clear a E;intro a E
    refine sv E rfl rfl rfl (bD E rfl rfl) ?_
    clear a E;intro a E
    refine R5 (i:=ix) (m:=1) (us:=F.enc y) E H (wn rfl) rfl rfl rfl rfl rfl EL.hS EL.sz hb3 (by omega) (by rw [hel,Nat.one_mul]) (hey H hb4) (by rw [hel,hcl3];omega) (Ck F y) ?_
    clear E H;clear a;clear w';intro w' a H E
    refine wpList_nil ?_
    refine aC ?_
    rw [List.set_set,nO _ _ _ (by rw [hel,hcl3];omega)] at H
    refine wp_seq ?_
    refine wp_region_lit ?_
    refine sv E rfl rfl rfl (bD E rfl rfl) ?_
    clear a E;intro a E
    refine sv E rfl rfl rfl (cM E rfl rfl) ?_
    clear a E;intro a E
    refine wpList_nil ?_
    refine aC ?_
    refine wp_ret ?_
    refine aY E hr rfl ?_
    have e9:cs3.take (j * z)=F.encs (xs.take j):=by
      rw [hcs3,List.append_assoc,List.take_append_of_le_length (by rw [List.length_take,hcl];omega),List.take_take,← hety]
      congr 1;omega
    have e10:cs3.drop (j * z+(F.enc y).length)=F.encs (xs.drop j) ++ cs.drop ((j+1) * z+(F.encs (xs.drop j)).length):=by
      rw [hcs3,List.append_assoc,hel,show j * z+z=(cs.take ((j+1) * z)).length from by rw [List.length_take,hcl];omega]
      exact List.drop_left
    rw [e9,e10] at H
    have hcl4:(F.encs (xs.take j) ++ F.enc y ++ (F.encs (xs.drop j) ++ cs.drop ((j+1) * z+(F.encs (xs.drop j)).length))).length=c * z:=by
      rw [List.length_append,List.length_append,List.length_append,List.length_drop,F.encs_len,List.length_take,hel,hdl,hcl,hsz,Nat.min_eq_left (show j ≤ xs.length by omega)];omega
    have e7:(F.encs (xs.take j) ++ F.enc y ++ (F.encs (xs.drop j) ++ cs.drop ((j+1) * z+(F.encs (xs.drop j)).length))).take ((n+1) * z)=F.encs (xs.take j ++ y::xs.drop j):=by
      have e6:F.encs (xs.take j) ++ F.enc y ++ (F.encs (xs.drop j) ++ cs.drop ((j+1) * z+(F.encs (xs.drop j)).length))=F.encs (xs.take j ++ y::xs.drop j) ++ cs.drop ((j+1) * z+(F.encs (xs.drop j)).length):=by
        rw [F.encs_app,show y::xs.drop j= [y] ++ xs.drop j from rfl,F.encs_app,F.encs_one]
        simp only [List.append_assoc]
      have:(F.encs (xs.take j ++ y::xs.drop j)).length=(n+1) * z:=by
        rw [F.encs_len,List.length_append,List.length_cons,List.length_take,List.length_drop,hsz,← hnn];congr 1;omega
      rw [e6,← this]
      exact List.take_left
    have H5:=H.blkRow (i:=ix) (xs:=xs.take j ++ y::xs.drop j) (n:=n+1) (c:=c) F (List.getElem?_set_self (by omega)) (by rw [List.length_append,List.length_cons,List.length_take,List.length_drop,← hnn];omega) hcn hcm (by rw [hsz];exact hcl4) (by rw [hsz];exact e7)
    rw [List.set_set] at H5
    have H7:=H5.blkRow (i:=iu) (g:=g2) (cs:=cs2) (xs:=[y]) (n:=1) (c:=c2) F (by rw [List.getElem?_set_ne hne];exact hb2) rfl hnc2 hcm2 (by rw [hsz];exact hcl2) (by rw [hsz,F.encs_one];exact hct2)
    have e8:(os3.set ix (Row T d (.slice (some ⟨g,0,none⟩) (n+1) c) (xs.take j ++ y::xs.drop j))).set iu (Row T d (.slice (some ⟨g2,0,none⟩) 1 c2) [y])=os.set ix (Row T d (.slice (some ⟨g,0,none⟩) (n+1) c) (xs.take j ++ y::xs.drop j)):=by
      rw [hos3]
      apply List.ext_getElem?
      intro q
      by_cases q1:iu=q
      · subst q1
        rw [List.getElem?_set_self (by simpa using hul),List.getElem?_set_ne hne,hu]
      · rw [List.getElem?_set_ne q1]
        by_cases q2:ix=q
        · subst q2
          rw [List.getElem?_set_self (by simpa using hil),List.getElem?_set_self hil]
        · rw [List.getElem?_set_ne q2,List.getElem?_set_ne q1,List.getElem?_set_ne q2,List.getElem?_set_ne q2]
    rw [e8] at H7
    exact H7
theorem Mb(F:eJ d)(EL:El P ρ T z zs bt)(hsz:d.sz=z){fid:FuncId}{fn:Func}(hf:P.funcs[fid]? =some fn)(hbd:fn.body=(Body2.n22 ρ).body)(hm:fn.ntmps=95)(hr:fn.results= #[.tmp 6]){w:World}{os:List Ob}{rs:List Rp}{ix iu:Nat}{v u:Value}{y:α}(H:Sep w os rs)(hi:os[ix]? =some (Row T d v []))(hu:os[iu]? =some (Row T d u [y]))(hne:ix ≠ iu) :
    Calls P fid [v,.int .i64 0,u].toArray w (Ret fun v' w'=>Sep w' (os.set ix (Row T d v' [y])) rs):=by
  obtain ⟨a0,c,rfl⟩:=H.rowform hi
  obtain ⟨g2,c2,hu2⟩:=H.rowformNE hu (j:=0) (y:=y) rfl
  have hu2:u= .slice (some ⟨g2,0,none⟩) 1 c2:=hu2
  subst hu2
  refine enter hf hbd hm rfl fun a E=>?_
  simp only [pG,Nat.reduceAdd,List.length_nil] at E
  refine wp_seq ?_
  refine wp_region_lit ?_
  refine sv E rfl rfl rfl (cM E rfl rfl) ?_
  clear a E;intro a E
  refine wpList_nil ?_
  refine aC ?_
  refine wp_seq ?_
  refine wp_region_lit ?_
  refine sv E rfl rfl rfl (bD E rfl rfl) ?_
  clear a E;intro a E
  refine sv E rfl rfl rfl (bD E rfl rfl) ?_
  clear a E;intro a E
  refine sv E rfl rfl rfl (Ap (i:=0) E rfl rfl rfl EL.hS EL.sz (Nat.le_refl _)) ?_
  clear a E;intro a E
  refine wpList_nil ?_
  refine aC ?_
  refine wp_seq ?_
  refine wp_region_lit ?_
  refine sv E rfl rfl rfl (bD E rfl rfl) ?_
  clear a E;intro a E
  refine sv E rfl rfl rfl (uT E rfl rfl EL.hS) ?_
  clear a E;intro a E
  refine sv E rfl rfl rfl (cM E rfl rfl) ?_
  clear a E;intro a E
  refine wpList_nil ?_
  refine aC ?_
  refine wp_seq ?_
  refine wp_seq ?_
  refine wp_region_lit ?_
  refine sv E rfl rfl rfl (bD E rfl rfl) ?_
  clear a E;intro a E
  refine sv E rfl rfl rfl (iX E rfl rfl rfl rfl) ?_
  clear a E;intro a E
  refine wpList_nil ?_
  refine aC ?_
  refine nS E rfl (fun hb=>by simp at hb) fun _=>?_
  refine wp_skip ?_
  refine aC ?_
  refine wp_seq ?_
  refine wp_region_lit ?_
  refine sv E rfl rfl rfl (bD E rfl rfl) ?_
  clear a E;intro a E
  refine sv E rfl rfl rfl (uT E rfl rfl EL.hS) ?_
  clear a E;intro a E
  refine sv E rfl rfl rfl (cM E rfl rfl) ?_
  clear a E;intro a E
  refine wpList_nil ?_
  refine aC ?_
  refine wp_seq ?_
  refine wp_seq ?_
  refine wp_region_lit ?_
  refine sv E rfl rfl rfl (bD E rfl rfl) ?_
  clear a E;intro a E
  refine sv E rfl rfl rfl (bD E rfl rfl) ?_
  clear a E;intro a E
  refine sv E rfl rfl rfl (iX E rfl rfl rfl rfl) ?_
  clear a E;intro a E
  refine wpList_nil ?_
  refine aC ?_
  refine nS E rfl (fun hb=>?_) fun hb=>by simp at hb
  refine wp_seq ?_
  refine wp_region_lit ?_
  refine sv E rfl rfl rfl (bD E rfl rfl) ?_
  clear a E;intro a E
  refine sv E rfl rfl rfl (bD E rfl rfl) ?_
  clear a E;intro a E
  refine dV (i:=ix) E H (wn rfl) rfl rfl rfl rfl rfl hi (R1 hu) EL.hS (by rw [hsz];exact EL.inf) (by rw [hsz];exact EL.zs0) (by show 0+1 ≤ 274877906944;omega) EL.bl ?_
  clear E H;clear a;intro v3 w' a H E
  refine sv E rfl rfl rfl (cM E rfl rfl) ?_
  clear a E;intro a E
  refine wpList_nil ?_
  refine aC ?_
  refine wp_ret ?_
  refine aP ?_
  refine aY E hr rfl ?_
  exact H
theorem A5(F:eJ d)(EL:El P ρ T z zs bt)(hsz:d.sz=z){fid:FuncId}{fn:Func}(hf:P.funcs[fid]? =some fn)(hbd:fn.body=(Body2.n22 ρ).body)(hm:fn.ntmps=95)(hr:fn.results= #[.tmp 6]){fo:Func}(ho:P.funcs[ρ.f 29]? =some fo)(hona:(fo.name == "runtime.NumGoroutine")=false)(hob:fo.body.isNone=true)(hon:(Extern.findNext fo).isNone=true)(hof:Extern.find fo=some (Extern.SlicesOverlaps.overlaps #[ρ.t 24,ρ.t 24] #[ρ.t 4])){w:World}{os:List Ob}{rs:List Rp}{ix iu:Nat}{v u:Value}{xs:List α}{y:α}(H:Sep w os rs)(hi:os[ix]? =some (Row T d v xs))(hu:os[iu]? =some (Row T d u [y]))(hne:ix ≠ iu){a:Int}(ha:0 ≤ a∧a ≤ xs.length∧xs.length ≤ 1000000) :
    Calls P fid [v,.int .i64 a,u].toArray w (Ret fun v' w'=>Sep w' (os.set ix (Row T d v' (xs.take a.toNat ++ y::xs.drop a.toNat))) rs):=by
  cases xs with
  | nil=>
    obtain rfl:a=0:=by have:=ha.2.1;simp at this;omega
    exact Mb F EL hsz hf hbd hm hr H hi hu hne
  | cons x xs=>exact Ma F EL hsz hf hbd hm hr ho hona hob hon hof H hi hu hne ⟨ha.1,ha.2.1,by simp,ha.2.2⟩
end Go.Cb
