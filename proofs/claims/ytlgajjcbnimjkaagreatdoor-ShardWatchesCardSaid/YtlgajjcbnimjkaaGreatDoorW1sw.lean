/- Watches, plainly: one watch of all, its session, what it is told, and what is taken. -/
import Derived.Test.YtlgajjcbnimjkaaGreatDoorD3sw
import Derived.Test.YtlgajjcbnimjkaaGreatDoorKsw3
set_option linter.unusedVariables false
set_option linter.unusedSimpArgs false
namespace Go.Cb
open Go.Proofs Go.RowKit

abbrev Ev:=bK
abbrev Ses:=aC
abbrev Wat:=aJ
/-! ### what is taken -/
theorem Q4{α:Type}{l:List α}{f:α→Bool}{i:Nat}(hi:i < l.length):(l.take (i+1)).filter f=(l.take i).filter f ++ if f l[i]=true then [l[i]] else []:=by
  rw [List.take_add_one,List.getElem?_eq_getElem hi,List.filter_append]
  congr 1
  simp [List.filter_cons]
theorem Mi(l:List Ev)(u:Int)(hl:l.length ≤ 1000000):∀ (k i:Nat),i ≤ l.length→l.length+1 ≤ i+k→(∀ m (h:m < l.length),m < i→decide ((l[m]).Num ≤ u)=false)→
    (∃ j:Nat,∃ hj:j < l.length,cU l u k (i:Int)=some (j:Int)∧decide ((l[j]).Num ≤ u)=true∧∀ m (h:m < l.length),m < j→decide ((l[m]).Num ≤ u)=false)∨(cU l u k (i:Int)=some (-1)∧∀ m (h:m < l.length),decide ((l[m]).Num ≤ u)=false)
  | 0,i,_,h,_=>by omega
  | k+1,i,h0,h,hb=>by
    unfold cU sP
    by_cases hi:i < l.length
    · rw [if_pos (by simpa using hi),eR hi]
      simp only [Option.bind_some]
      rw [oA (by omega)]
      cases hc:decide ((l[i]).Num ≤ u) with
      | true=>exact .inl ⟨i,hi,by rw [if_pos rfl],hc,hb⟩
      | false=>
        rw [if_neg (by simp)]
        refine Mi l u hl k (i+1) (by omega) (by omega) fun m h hm=>?_
        by_cases e:m=i
        · subst e;exact hc
        · exact hb m h (by omega)
    · rw [if_neg (by simpa using hi)]
      exact .inr ⟨rfl,fun m h=>hb m h (by omega)⟩
theorem Ex(u:Int)(l0:List Ev)(hn:l0.length ≤ 1000000):∀ (k i j:Nat) (l:List Ev),l.length=l0.length→i ≤ j→j ≤ l0.length→l0.length+1 ≤ j+k→l.take i=(l0.take j).filter (fun x=>!decide (x.Num ≤ u))→l.drop j=l0.drop j→
    cY u k l (i:Int) (j:Int)=some (l0.filter (fun x=>!decide (x.Num ≤ u)))
  | 0,i,j,l,_,_,_,h,_,_=>by omega
  | k+1,i,j,l,hl,hij,hj0,h,ht,hd=>by
    unfold cY eX sP
    by_cases hj:j < l.length
    · have hj':j < l0.length:=by omega
      have hjx:l[j]=l0[j]:=by
        have h1:l[j]? =l0[j]? :=by
          have:=congrArg (fun z:List Ev=>z[0]?) hd
          simpa [List.getElem?_drop] using this
        rw [List.getElem?_eq_getElem hj,List.getElem?_eq_getElem hj'] at h1
        exact Option.some.inj h1
      rw [if_pos (by simpa using hj),eR hj]
      simp only [Option.bind_some]
      rw [hjx]
      cases hc:decide ((l0[j]).Num ≤ u) with
      | false=>
        rw [if_pos (by rfl),eR (show i < l.length by omega)]
        simp only [Option.bind_some,Int.toNat_natCast]
        rw [oA (show i ≤ 4611686018427387904 by omega),oA (show j ≤ 4611686018427387904 by omega)]
        refine Ex u l0 hn k (i+1) (j+1) (l.set i l0[j]) (by simpa using hl) (by omega) (by omega) (by omega) ?_ ?_
        · rw [Q4 hj',hc,← ht,List.take_add_one]
          rw [List.getElem?_set_self (by omega),List.take_set_of_le (by omega)]
          simp
        · rw [List.drop_set_of_lt (by omega),← List.drop_drop,hd,← List.drop_drop]
      | true=>
        rw [if_neg (by simp),oA (show j ≤ 4611686018427387904 by omega)]
        refine Ex u l0 hn k i (j+1) l hl (by omega) (by omega) (by omega) ?_ ?_
        · rw [Q4 hj',hc,ht];simp
        · rw [← List.drop_drop,hd,← List.drop_drop]
    · have hje:j=l0.length:=by omega
      subst hje
      rw [if_neg (by simpa using hj),gL (by omega)]
      have hti:l.take i=l0.filter (fun x=>!decide (x.Num ≤ u)):=by rw [ht,List.take_length]
      simp only [Int.toNat_natCast]
      rw [gL (by rw [List.length_append,List.length_take,List.length_replicate];omega)]
      rw [List.take_append_of_le_length (by rw [List.length_take];omega),List.take_take,Nat.min_self,hti]
theorem Wo(l:List Ev)(u:Int)(hl:l.length ≤ 1000000):fK l u=some (l.filter (fun x=>!decide (x.Num ≤ u))):=by
  unfold fK hF
  rcases Mi l u hl (((l.length:Int) - 0:Int).toNat+1) 0 (by omega) (by omega) (fun m h hm=>by omega) with ⟨j,hj,h1,h2,h3⟩ | ⟨h1,h3⟩
  · rw [show cU l u (((l.length:Int) - 0:Int).toNat+1) 0=some (j:Int) from h1]
    simp only [Option.bind_some]
    rw [if_neg (by simp only [beq_iff_eq];omega),oA (by omega)]
    refine Ex u l hl _ j (j+1) l rfl (by omega) (by omega) (by omega) ?_ rfl
    rw [Q4 hj,h2]
    simp only [Bool.not_true,Bool.false_eq_true,if_false,List.append_nil]
    exact (List.filter_eq_self.2 fun y hy=>by
      obtain ⟨m,hm,rfl⟩:=List.mem_take_iff_getElem.1 hy
      rw [h3 m (by omega) (by omega)];rfl).symm
  · rw [show cU l u (((l.length:Int) - 0:Int).toNat+1) 0=some (-1) from h1]
    simp only [Option.bind_some]
    rw [if_pos (by rfl),List.filter_eq_self.2 fun y hy=>by
      obtain ⟨m,hm,rfl⟩:=List.mem_iff_getElem.1 hy
      rw [h3 m hm];rfl]
/-! ### one watch of all -/
abbrev w1:Wat:=⟨1,1,(ByteArray.mk #[47]),true⟩
def Qy(n:Int):Bool:=decide (1 ≤ n) && decide (n ≤ 281474976710656)
theorem Ol(n:Int):nR n=some (Qy n):=by
  unfold nR Qy
  by_cases h:1 ≤ n
  · rw [if_pos (decide_eq_true h),decide_eq_true h];rfl
  · rw [if_neg (by rw [decide_eq_false (show ¬ n ≥ 1 by omega)];simp),decide_eq_false h];rfl
/-- events that may wait: their numbers end with n. -/
structure pC (n:Int) (E:List Ev):Prop where
  len:E.length ≤ 8
  cnt:(E.length:Int) ≤ n
  top:n ≤ 281474976710656
  num:∀ j (h:j < E.length),(E[j]).Num=n - E.length+1+j
  kind:∀ e ∈ E,1 ≤ e.Kind∧e.Kind ≤ 4∧dQ (bl e.Path)=true∧e.Watch=1
theorem Gq{n:Int}{E:List Ev}(H:pC n E):∀ (k i:Nat),i ≤ E.length→E.length+1 ≤ i+k→fJ (⟨1,n,E⟩:Ses) k (i:Int)=some true
  | 0,i,_,h=>by omega
  | k+1,i,h0,h=>by
    have a:=H.len;have b:=H.cnt;have c:=H.top
    unfold fJ
    by_cases hi:i < E.length
    · rw [if_pos (by simpa using hi),eR hi]
      simp only [Option.bind_some]
      have hn:=H.num i hi
      obtain ⟨k1,k2,k3,k4⟩:=H.kind _ (List.getElem_mem hi)
      rw [w64 (n:=n - (E.length:Int)) (by omega) (by omega),w64 (n:=n - (E.length:Int)+1) (by omega) (by omega),w64 (n:=n - (E.length:Int)+1+(i:Int)) (by omega) (by omega)]
      rw [if_neg (by rw [hn];simp),if_neg (show ¬ decide ((E[i]).Num < 1)=true by rw [hn,decide_eq_true_eq];omega),if_neg (by rw [decide_eq_true_eq];omega),if_neg (by rw [decide_eq_true_eq];omega),vY,k3]
      simp only [Option.bind_some]
      rw [if_neg (by simp),Ol,k4]
      simp only [Option.bind_some]
      unfold iN
      rw [if_neg (by simp [Qy]),oA (by omega)]
      exact Gq H k (i+1) (by omega) (by omega)
    · rw [if_neg (by simpa using hi)]
theorem Uc{n:Int}{E:List Ev}(H:pC n E):uH (⟨1,n,E⟩:Ses)=some true:=by
  have a:=H.len;have b:=H.cnt;have c:=H.top
  unfold uH
  rw [Ol]
  simp only [Option.bind_some]
  rw [if_neg (by simp [Qy]),if_neg (by simp;omega),if_neg (by simp;omega)]
  unfold lK
  rw [if_neg (by simp;omega)]
  exact Gq H _ 0 (by omega) (by show E.length+1 ≤ 0+(((E.length:Int) - 0:Int).toNat+1);omega)
/-- the watch, or none. -/
abbrev wsB (b:Bool):List Wat:=if b=true then [w1] else []
theorem Qz{n:Int}{E:List Ev}(H:pC n E):lU [(⟨1,n,E⟩:Ses)]=some true:=by
  unfold lU fO fZ
  rw [show ((([(⟨1,n,E⟩:Ses)].length:Int) - 0:Int).toNat+1)=2 from rfl]
  unfold dV
  rw [if_pos (by rfl),show idx [(⟨1,n,E⟩:Ses)] 0=some (⟨1,n,E⟩:Ses) from rfl]
  simp only [Option.bind_some]
  unfold nX
  rw [Uc H]
  simp only [Option.bind_some]
  rw [if_neg (by simp),show IntKind.i64.wrap (0+1)=1 from rfl]
  unfold dV
  rw [if_neg (by simp)]
  rfl
theorem Hr{n:Int}{E:List Ev}(H:pC n E)(b:Bool):pB (⟨wsB b,[⟨1,n,E⟩]⟩:bM)=some true:=by
  have fin:∀ (ws:List Wat) (x:List ((Int×Int)×Int)),ws.length ≤ 64→x.length=ws.length→rG ws=some true→lL (⟨ws,[⟨1,n,E⟩]⟩:bM) x 1 true 1=some true:=by
    intro ws x h1 h2 h3
    unfold lL
    rw [if_neg (by simp),if_pos (by simp;omega),if_pos (by simp;omega),h3]
    simp only [Option.bind_some,if_true]
    rw [Qz H]
    simp
  unfold pB
  cases b with
  | false=>exact fin [] [] (by simp) rfl rfl
  | true=>exact fin [w1] [((1,1),1)] (by simp) rfl (by kernel_rfl)
/-- what one watch of all makes of what happened. -/
def tI(z:Bool×Int×List Ev)(k:Int)(p:ByteArray):Bool×Int×List Ev:=
  if z.1=false then z else if z.2.2.length < 7 then (true,z.2.1+1,z.2.2 ++ [⟨z.2.1+1,k,p,1⟩])
  else if z.2.2.length=7 then (false,z.2.1+1,z.2.2 ++ [⟨z.2.1+1,4,ByteArray.mk #[47],1⟩]) else (false,z.2.1,z.2.2)
theorem pC.push {n:Int} {E:List Ev} (H:pC n E) (h8:E.length < 8) (hn:n < 281474976710656) {k:Int} {p:ByteArray} (hk:1 ≤ k∧k ≤ 4) (hp:dQ (bl p)=true):pC (n+1) (E ++ [⟨n+1,k,p,1⟩]):=by
  have a:=H.cnt
  refine ⟨by simp;omega,by simp;omega,by omega,fun j h=>?_,fun e he=>?_⟩
  · rw [List.length_append,List.length_singleton] at h ⊢
    by_cases c:j < E.length
    · rw [List.getElem_append_left c,H.num j c];omega
    · obtain rfl:j=E.length:=by omega
      simp
      omega
  · rcases List.mem_append.1 he with he | he
    · exact H.kind e he
    · rw [List.mem_singleton.1 he]
      exact ⟨hk.1,hk.2,hp,rfl⟩
theorem Ud(n:Int)(E:List Ev)(k:Int)(p:ByteArray):tI (true,n,E) k p=if E.length < 7 then (true,n+1,E ++ [⟨n+1,k,p,1⟩]) else if E.length=7 then (false,n+1,E ++ [⟨n+1,4,ByteArray.mk #[47],1⟩]) else (false,n,E):=rfl
theorem Om{z:Bool×Int×List Ev}(H:pC z.2.1 z.2.2)(hn:z.2.1 < 281474976710656){k:Int}{p:ByteArray}(hk:1 ≤ k∧k ≤ 3)(hp:dQ (bl p)=true):pC (tI z k p).2.1 (tI z k p).2.2∧(tI z k p).2.1 ≤ z.2.1+1:=by
  unfold tI
  split
  · exact ⟨H,by omega⟩
  · split
    · exact ⟨H.push (by omega) hn ⟨hk.1,by omega⟩ hp,by simp⟩
    · split
      · exact ⟨H.push (by omega) hn (by omega) root_ok',by simp⟩
      · exact ⟨H,by simp only;omega⟩
where root_ok':dQ (bl (ByteArray.mk #[47]))=true:=rfl
theorem bsS(n:Int)(E:List Ev):dI [(⟨1,n,E⟩:Ses)] 1=some (0,true):=by
  unfold dI
  rfl
theorem bsT(n:Int)(E:List Ev):cX [(⟨1,n,E⟩:Ses)] 1=some (0,true):=by
  unfold cX
  rfl
theorem AJ{n:Int}{E:List Ev}(H:pC n E)(hn:n < 281474976710656)(k:Int)(p:ByteArray) :
    zG [(⟨1,n,E⟩:Ses)] 0 (⟨1,n,E⟩:Ses) w1 k p=some ((tI (true,n,E) k p).1,[⟨1,(tI (true,n,E) k p).2.1,(tI (true,n,E) k p).2.2⟩]):=by
  have a:=H.len;have b:=H.cnt;have c:=H.top
  unfold zG
  rw [Ud]
  have e1:∀ (k:Int) (p:ByteArray),E.length < 8→oL w1 (⟨1,n,E⟩:Ses) [(⟨1,n,E⟩:Ses)] 0 k p=some (decide ((E.length:Int) < 7),[⟨1,n+1,E ++ [⟨n+1,k,p,1⟩]⟩]):=by
    intro k p h8
    unfold oL rF rE
    rw [if_pos (by simp;omega),if_pos (by simpa using hn),w64 (n:=n+1) (by omega) (by omega),gL (by simp [LIM];omega),gL (by simp [LIM];omega),if_pos rfl]
    rfl
  by_cases h7:E.length=7
  · rw [if_pos (by simp;omega),e1 _ _ (by omega),if_neg (by omega),if_pos h7,decide_eq_false (by omega)]
  · rw [if_neg (by simp;omega)]
    by_cases h8:E.length < 7
    · rw [e1 _ _ (by omega),if_pos h8,decide_eq_true (by omega)]
    · rw [if_neg h8,if_neg h7]
      unfold oL rF rE
      rw [if_neg (by simp;omega),if_neg (by simp),if_pos rfl]
      simp only
      rw [decide_eq_false (by omega)]
theorem AK(z:Bool×Int×List Ev)(H:pC z.2.1 z.2.2)(hn:z.2.1 < 281474976710656){k:Int}{p:ByteArray}(hk:1 ≤ k∧k ≤ 3)(hp:dQ (bl p)=true) :
    fF (wsB z.1) [⟨1,z.2.1,z.2.2⟩] k p=some (wsB (tI z k p).1,[⟨1,(tI z k p).2.1,(tI z k p).2.2⟩]):=by
  obtain ⟨b,n,E⟩:=z
  simp only at H hn ⊢
  unfold fF zH
  rw [Hr H b]
  simp only [Option.bind_some]
  rw [if_neg (by simp),if_neg (by simp;omega),if_neg (by simp;omega),vY,hp]
  simp only [Option.bind_some]
  unfold mG
  rw [if_neg (by simp),gL (by simp [LIM]),gL (by cases b <;> simp [wsB,LIM])]
  have key:fI (wsB b) p [(⟨1,n,E⟩:Ses)] k=some (wsB (tI (b,n,E) k p).1,[⟨1,(tI (b,n,E) k p).2.1,(tI (b,n,E) k p).2.2⟩]):=by
    cases b with
    | false=>rfl
    | true=>
      have t1:sO w1 p [(⟨1,n,E⟩:Ses)] k=some (!(tI (true,n,E) k p).1,[⟨1,(tI (true,n,E) k p).2.1,(tI (true,n,E) k p).2.2⟩]):=by
        unfold sO
        have j1:mB w1 k p [(⟨1,n,E⟩:Ses)] false=some (!(tI (true,n,E) k p).1,[⟨1,(tI (true,n,E) k p).2.1,(tI (true,n,E) k p).2.2⟩]):=by
          unfold mB
          rw [if_neg (by simp),bsS]
          simp only [Option.bind_some]
          rw [if_neg (by simp)]
          unfold rX
          rw [show idx [(⟨1,n,E⟩:Ses)] 0=some (⟨1,n,E⟩:Ses) from rfl]
          simp only [Option.bind_some]
          rw [AJ H hn]
          rfl
        rw [j1,if_neg (show ¬ (!w1.Deep)=true by simp),Ok hp]
        simp only [Option.bind_some]
        rw [show (!true)=false from rfl,j1]
        split <;> rfl
      unfold fI gP
      rw [show ((((wsB true).length:Int) - 0:Int).toNat+1)=2 from rfl]
      unfold eB
      rw [if_pos (by rfl),show idx (wsB true) 0=some w1 from rfl]
      simp only [Option.bind_some]
      rw [t1]
      simp only [Option.bind_some]
      cases hd:(tI (true,n,E) k p).1 with
      | true=>
        rw [if_neg (by simp),show IntKind.i64.wrap (0+1)=1 from rfl]
        unfold eB
        rw [if_neg (by simp [wsB])]
        rfl
      | false=>
        rw [if_pos (by rfl)]
        simp only [Option.bind_some]
        rw [if_neg (by simp)]
        rfl
  rw [key]
  rfl
/-- what is taken: what is behind a number stays. -/
theorem JW{n:Int}{E:List Ev}(H:pC n E)(b:Bool)(u:Int):zJ (⟨wsB b,[⟨1,n,E⟩]⟩:bM) 1 u=some ((⟨wsB b,[⟨1,n,E.filter fun x=>!decide (x.Num ≤ u)⟩]⟩:bM),E.filter (fun x=>!decide (x.Num ≤ u)),0):=by
  have a:=H.len
  have f:=List.length_filter_le (fun x:Ev=>!decide (x.Num ≤ u)) E
  unfold zJ
  rw [Hr H b]
  simp only [Option.bind_some]
  rw [if_neg (by simp),bsT]
  simp only [Option.bind_some]
  rw [if_neg (by simp),gL (by simp [LIM]),show idx [(⟨1,n,E⟩:Ses)] 0=some (⟨1,n,E⟩:Ses) from rfl]
  simp only [Option.bind_some]
  rw [gL (by simp [LIM];omega),Wo _ _ (by omega)]
  simp only [Option.bind_some]
  rw [gL (by simp only [LIM];omega)]
  rfl
end Go.Cb
