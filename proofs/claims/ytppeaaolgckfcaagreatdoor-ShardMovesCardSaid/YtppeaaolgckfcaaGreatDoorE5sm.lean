/- Watches, plainly: they are told of what happened. -/
import Derived.Test.YtppeaaolgckfcaaGreatDoorE4sm
import Derived.Test.YtppeaaolgckfcaaGreatDoorPsm1
set_option linter.unusedVariables false
set_option linter.unusedSimpArgs false
namespace Go.Cb
open Go.Proofs Go.RowKit

/-- sessions of some numbers. -/
structure E2 (ns:List Int) (s:List Ses):Prop where
 ok:∀ x ∈ s,Be x
 ns:s.map (·.Num)=ns
theorem E2.set {ns:List Int} {s:List Ses} (H:E2 ns s) {i:Nat} (hi:i < s.length) {t:Ses} (ht:Be t) (e:t.Num=(s[i]).Num):E2 ns (s.set i t):=by
 refine ⟨HN H.ok ht,?_⟩;rw [← H.ns,List.map_set,e];apply List.ext_getElem (by simp);intro j h1 h2;rw [List.getElem_set];split
 ·rename_i q;subst q;simp
 rfl
theorem OS{ns:List Int}{s:List Ses}(H:E2 ns s){i:Nat}(hi:i < s.length){x:Wat}(wx:Dj x=true){k:Int}{p:BY}(hk:1 <= k/\k <= 3)(hp:dK (bl p)=true):∃ b S,Q2 s (i:Int) s[i] x k p=some (b,S)/\E2 ns S:=by
 have so:=H.ok _ (List.getElem_mem hi);obtain ⟨a1,a2,a3,a4,a5,a6⟩:=so;simp only [Dj,Bool.and_eq_true] at wx;have j2:∀ S,E2 ns S->∃ b S',yD x s[i] S=some (b,S')/\E2 ns S':=λS h=>by
  unfold yD;split
  ·exact ⟨_,_,rfl,h⟩
  exact ⟨_,_,rfl,h⟩
 have j1:∀ (k:Int) (p:BY),1 <= k/\k <= 4->dK (bl p)=true->∃ b S,yE x s[i] s (i:Int) k p=some (b,S)/\E2 ns S:=λk p hk hp=>by
  unfold yE B9;by_cases h8:(s[i]).Events.length < 8
  ·rw [iP (by simp;omega)];by_cases hc:(s[i]).Count < 281474976710656
   ·rw [iP (decide_eq_true hc),w64 (n:=(s[i]).Count+1) (by omega) (by omega),dJ (by simp [LIM];omega),dJ (by simp [LIM];omega),Int.toNat_natCast,List.set_set];refine j2 _ (H.set hi ⟨a1,⟨by simp only;omega,by simp only;omega⟩,by simp;omega,by simp;omega,λj h=>?_,λe he=>?_⟩ rfl)
    ·simp only [List.length_append,List.length_singleton] at h ⊢;by_cases c:j < (s[i]).Events.length
     ·rw [List.getElem_append_left c,a5 j c];omega
     obtain rfl:j=(s[i]).Events.length:=by omega
     simp;omega
    rcases List.mem_append.1 he with he | he
    ·exact a6 e he
    rw [List.mem_singleton.1 he];exact ⟨hk.1,hk.2,hp,wx.2.1⟩
   rw [iN (by simpa using hc)];exact j2 s H
  rw [iN (by simp;omega),iN (by simp)];exact j2 s H
 unfold Q2;split
 ·exact j1 4 x.Path (by omega) wx.2.2
 exact j1 k p (by omega) hp
theorem E2.has {ns:List Int} {s:List Ses} (H:E2 ns s) {n:Int} (h:n ∈ ns):∃ t ∈ s,t.Num=n:=by
 rw [← H.ns] at h;exact List.mem_map.1 h
theorem E2.ss {ns:List Int} {s:List Ses} (H:E2 ns s) (h:ns.Pairwise (· < ·)):s.Pairwise (·.Num < ·.Num):=by
 rw [← H.ns] at h;exact List.pairwise_map.1 h
theorem KJ{ns:List Int}(hns:ns.Pairwise (· < ·))(hl:ns.length <= 1000000){s:List Ses}(H:E2 ns s){x:Wat}(wx:Dj x=true)(hx:x.Session ∈ ns){k:Int}{p:BY}(hk:1 <= k/\k <= 3)(hp:dK (bl p)=true):∃ b S,wF x p s k=some (b,S)/\E2 ns S:=by
 have len:s.length=ns.length:=by rw [← H.ns,List.length_map]
 have j1:∀ b,∃ c S,rF x k p s b=some (c,S)/\E2 ns S:=λb=>by
  unfold rF yZ;cases b with
  | true=>exact ⟨_,_,rfl,H⟩
  | false=>
   obtain ⟨i,b,s1,A⟩:=Zv (H.ss hns) (by omega) x.Session;obtain ⟨rfl,hi,e⟩:=A.there (H.ss hns) (H.has hx);unfold fF;rw [iN (by simp),TJ,s1];simp only [bS];rw [iN (by simp),bY hi];simp only [bS];obtain ⟨c,S,t1,t2⟩:=OS H hi wx hk hp;rw [t1];exact ⟨_,_,rfl,t2⟩
 unfold wF;rw [Fv];simp only [bS];split
 ·split
  ·exact j1 _
  exact j1 _
 exact j1 _
theorem OU(W:List Wat)(hW:W.length <= 64)(hw:∀ x ∈ W,Dj x=true){ns:List Int}(hns:ns.Pairwise (· < ·))(hl:ns.length <= 1000000)(hx:∀ x ∈ W,x.Session ∈ ns){s:List Ses}(H:E2 ns s){k:Int}{p:BY}(hk:1 <= k/\k <= 3)(hp:dK (bl p)=true) :
  ∃ V S,gX W p s k=some (V,S)/\V.Sublist W/\E2 ns S:=by
 have one:∀ (i:Nat) (hi:i < W.length) (s:List Ses),E2 ns s->∃ b S,wF W[i] p s k=some (b,S)/\E2 ns S:=λi hi s H=>KJ hns hl H (hw _ (List.getElem_mem hi)) (hx _ (List.getElem_mem hi)) hk hp;unfold gX jA;obtain ⟨⟨z,s1⟩,h1,h2,h3⟩:=zF (λn i (s:List Ses)=>dT W p k n i s) (n:=W.length) (k:=((W.length:Int) - 0:Int).toNat+1) (λ_ s=>E2 ns s) (λr=>E2 ns r.2/\(r.1= -1∨∃ j:Nat,r.1=(j:Int)/\j < W.length)) s (qR _) H (by
  intro n i s hi H ih;unfold dT;rw [iP (by simpa using hi),bY hi];simp only [bS];obtain ⟨b,S,t1,t2⟩:=one i hi s H;rw [t1];simp only [bS];cases b with
  | true=>rw [iP (by trivial)];exact ⟨_,rfl,t2,.inr ⟨i,rfl,hi⟩⟩
  | false=>rw [iN (by simp),hP (by omega)];exact ih S t2) (by
  intro n s H;unfold dT;rw [iN (by simp)];exact ⟨_,rfl,H,.inl rfl⟩)
 simp only at h1 h2 h3;rw [h1];simp only [bS];rcases h3 with rfl | ⟨j,rfl,hj⟩
 ·rw [iP (by rfl)];exact ⟨_,_,rfl,List.Sublist.refl _,h2⟩
 rw [iN (by simp only [beq_iff_eq];omega),hP (by omega)];obtain ⟨⟨V,S⟩,g1,g2,g3⟩:=Xf (λn i (s:List Wat×Int×List Ses)=>dB p k n s.1 s.2.1 i s.2.2) W.length (λj s=>∃ i:Nat,s.2.1=(i:Int)/\i <= j/\s.1.length=W.length/\(s.1.take i).Sublist (W.take j)/\s.1.drop j=W.drop j/\E2 ns s.2.2) (λr=>r.1.Sublist W/\E2 ns r.2) (by
  rintro n j ⟨l,x,s⟩ hj ⟨i,rfl,hij,hl,ht,hd,H⟩ ih;simp only at hl ht hd H;unfold dB fW;have hj':j < l.length:=by omega
  have hjx:l[j]=W[j]:=by
   have h1:l[j]? =W[j]? :=by
    have:=congrArg (λz:List Wat=>z[0]?) hd;simpa [List.getElem?_drop] using this
   rw [List.getElem?_eq_getElem hj',List.getElem?_eq_getElem hj] at h1;exact Option.some.inj h1
  obtain ⟨b,S,t1,t2⟩:=one j hj s H;have sub1:W.take (j+1)=W.take j ++ [W[j]]:=by rw [List.take_add_one,List.getElem?_eq_getElem hj];rfl
  rw [iP (by simp;omega),bY hj'];simp only [bS];rw [hjx,t1];simp only [bS];rw [hP (show j <= 4611686018427387904 by omega)];cases b with
  | false=>
   rw [iP (by rfl),bY (show i < l.length by omega)];simp only [bS,Int.toNat_natCast];rw [hP (show i <= 4611686018427387904 by omega)];refine ih (_,_,_) ⟨i+1,rfl,by omega,by simpa using hl,?_,?_,t2⟩
   ·simp only;rw [List.take_add_one,List.getElem?_set_self (by omega),List.take_set_of_le (by omega),sub1];exact ht.append (List.Sublist.refl _)
   simp only;rw [List.drop_set_of_lt (by omega),← List.drop_drop,hd,← List.drop_drop]
  | true=>
   rw [iN (by simp)];refine ih (_,_,_) ⟨i,rfl,by omega,hl,?_,?_,t2⟩
   ·simp only;rw [sub1];exact ht.trans (List.sublist_append_left _ _)
   simp only;rw [← List.drop_drop,hd,← List.drop_drop]) (by
  rintro n ⟨l,x,s⟩ ⟨i,rfl,hij,hl,ht,hd,H⟩;simp only at hl ht hd H;unfold dB;simp only;rw [iN (by simp;omega),dJ (by omega),Int.toNat_natCast,dJ (by rw [List.length_append,List.length_take,List.length_replicate];omega),List.take_append_of_le_length (by rw [List.length_take];omega),List.take_take,Nat.min_self];rw [List.take_length] at ht;exact ⟨_,rfl,ht,H⟩) (((W.length:Int) - ((j+1:Nat):Int):Int).toNat+1) (j+1) (W,(j:Int),s1) (by omega) (by omega) ⟨j,rfl,by omega,rfl,by rw [List.take_add_one];exact List.sublist_append_left _ _,rfl,h2⟩
 simp only at g1 g2 g3;exact ⟨V,S,g1,g2,g3⟩
theorem OV{w:bC}(H:rN w)(hs:w.Sessions.length <= 900000){k:Int}(hk:1 <= k/\k <= 3)(p:BY):∃ u,hX w.Watches w.Sessions k p=some (u.Watches,u.Sessions)/\rN u/\u.Sessions.length=w.Sessions.length:=by
 unfold hX Ay uF;have wl:=H.wl;rw [show (⟨w.Watches,w.Sessions⟩:bC)=w from rfl,Jr H (by omega),mR];simp only [bS];rw [iN (by simp),iN (by simp;omega),iN (by simp;omega)];cases hp:dK (bl p) with
 | false=>rw [iP (by rfl)];exact ⟨w,rfl,H,rfl⟩
 | true=>
  have SI:E2 (w.Sessions.map (·.Num)) w.Sessions:=⟨H.so,rfl⟩
  obtain ⟨V,S,h1,h2,h3⟩:=OU w.Watches wl H.wo (ns:=w.Sessions.map (·.Num)) (List.pairwise_map.2 H.ss) (by simp;omega) (λx hx=>by
   obtain ⟨s,a,b⟩:=H.has x hx;exact List.mem_map.2 ⟨s,a,b⟩) SI hk hp
  rw [iN (by simp),dJ (by simp only [LIM];omega),dJ (by simp only [LIM];omega),h1];refine ⟨⟨V,S⟩,rfl,⟨Nat.le_trans h2.length_le wl,H.wkn.sublist (h2.map wk),λx hx=>H.wo x (h2.subset hx),h3.ok,h3.ss (List.pairwise_map.2 H.ss),λx hx=>h3.has ?_⟩,?_⟩
  ·obtain ⟨s,a,b⟩:=H.has x (h2.subset hx);exact List.mem_map.2 ⟨s,a,b⟩
  have:=congrArg List.length h3.ns;simpa using this
/-! ### what is told of pieces -/
theorem KK{w:bC}(H:rN w)(hs:w.Sessions.length <= 900000)(l:List Pie)(r:List Res)(hl:l.length <= 1000000)(hr:r.length=l.length)(hn:∀ x ∈ r,Oc x):∃ u,xS w.Watches w.Sessions l r=some (u.Watches,u.Sessions)/\rN u/\u.Sessions.length=w.Sessions.length:=by
 let P:Nat->bC->Prop:=λ_ u=>rN u/\u.Sessions.length=w.Sessions.length
 have main:∀ (k i:Nat) (u:bC),i <= l.length->l.length+1 <= i+k->P i u->∃ v:bC,dV l r k (i:Int) u.Watches u.Sessions=some (v.Watches,v.Sessions)/\P 0 v:=by
  intro k
  induction k with
  | zero=>intro i u h0 h;omega
  | succ k IH=>
   intro i u h0 h p;unfold dV iH;by_cases hi:i < l.length
   ·rw [iP (by simpa using hi),bY hi];simp only [bS];have hi':i < r.length:=by omega
    rw [bY hi'];simp only [bS];have nk:=hn _ (List.getElem_mem hi');have hap:∀ (q:Int) (s:BY) (u:bC),1 <= q/\q <= 3->P i u->∃ v,hX u.Watches u.Sessions q s=some (v.Watches,v.Sessions)/\P i v:=λq s u hq p=>by
     obtain ⟨v,a,b,c⟩:=OV p.1 (by have:=p.2;omega) hq s;exact ⟨v,a,b,c.trans p.2⟩
    have nx:∀ u:bC,P i u->∃ v:bC,dV l r k (IntKind.i64.wrap ((i:Int)+1)) u.Watches u.Sessions=some (v.Watches,v.Sessions)/\P 0 v:=λu p=>by
     rw [hP (by omega)];exact IH (i+1) u (by omega) (by omega) p
    have l2:∀ (m j:Nat) (u:bC),j <= (r[i]).Names.length->(r[i]).Names.length+1 <= j+m->P i u->∃ v:bC,pE (dV l r k) (i:Int) r[i] l[i] m (j:Int) u.Watches u.Sessions=some (v.Watches,v.Sessions)/\P 0 v:=by
     intro m
     induction m with
     | zero=>intro j u h0 h;omega
     | succ m IH2=>
      intro j u h0 h p;unfold pE iH;by_cases hj:j < (r[i]).Names.length
      ·rw [iP (by simpa using hj),bY hj];simp only [bS];rw [Uu _ _ (by have:=nk.2 _ (List.getElem_mem hj);omega)];simp only [bS];obtain ⟨v,a,b⟩:=hap 2 (os2 (Az (bl (l[i]).Part.Path) (bl (r[i]).Names[j]))).1 u (by omega) p;rw [a];simp only [bS];rw [hP (by have:=nk.1;omega)];exact IH2 (j+1) v (by omega) (by omega) b
      rw [iN (by simpa using hj)];exact nx u p
    have hap':∀ (q:Int) (s:BY),1 <= q/\q <= 3->∃ v:bC,((hX u.Watches u.Sessions q s).bind λz=>dV l r k (IntKind.i64.wrap ((i:Int)+1)) z.1 z.2)=some (v.Watches,v.Sessions)/\P 0 v:=λq s hq=>by
     obtain ⟨v,a,b⟩:=hap q s u hq p;rw [a];exact nx v b
    have l2':=l2 ((((r[i]).Names.length:Int) - 0:Int).toNat+1) 0 u (by omega) (by omega) p;split
    ·exact hap' 1 _ (by omega)
    split
    ·exact hap' 2 _ (by omega)
    split
    ·exact hap' 3 _ (by omega)
    split
    ·exact l2'
    exact nx u p
   rw [iN (by simpa using hi)];exact ⟨u,rfl,p⟩
 unfold xS;obtain ⟨v,a,b⟩:=main (((l.length:Int) - 0:Int).toNat+1) 0 w (by omega) (by omega) ⟨H,rfl⟩;exact ⟨v,a,b⟩
end Go.Cb
