/- Plain laws of elder seats, at this one. -/
import Derived.Test.YtpbgbliikifjjaaGreatDoorQ10sl
import Derived.Test.YtpbgbliikifjjaaGreatDoorKsl1
set_option linter.unusedVariables false
set_option linter.unusedSimpArgs false
namespace Go.Cb
open Go.Proofs Go.RowKit

abbrev Pt:=bI
abbrev Pie:=cE
def Lz(l:List Op1):Bool:=decide (0 < l.length) && decide (l.length ≤ 8) && l.all sX
theorem Nw(l:List Op1)(hl:l.length ≤ 1000000):∀ (k i:Nat),i ≤ l.length→l.length+1 ≤ i+k→∃ v:Int,eF l k (i:Int)=some v∧decide (v ≥ 0)= !(l.drop i).all sX
  | 0,i,_,h=>by omega
  | k+1,i,h0,h=>by
    unfold eF
    by_cases hi:i < l.length
    · rw [if_pos (by simpa using hi),dV hi,List.drop_eq_getElem_cons hi]
      simp only [Option.bind_some,r8,Tg,List.all_cons]
      cases hm:sX l[i] with
      | false=>rw [if_pos (by rfl)];exact ⟨_,rfl,by simp⟩
      | true=>
        rw [if_neg (by simp),oV (by omega)]
        obtain ⟨v,h1,h2⟩:=Nw l hl k (i+1) (by omega) (by omega)
        exact ⟨v,h1,by rw [h2];simp⟩
    · rw [if_neg (by simpa using hi),List.drop_eq_nil_of_le (by omega)]
      exact ⟨-1,rfl,by simp⟩
theorem Mx(l:List Op1)(hl:l.length ≤ 1000000):q7 l=some (Lz l):=by
  unfold q7 iI jK Lz
  obtain ⟨v,h1,h2⟩:=Nw l hl (((l.length:Int) - 0:Int).toNat+1) 0 (by omega) (by omega)
  rw [show eF l (((l.length:Int) - 0:Int).toNat+1) 0=some v from h1]
  simp only [Option.bind_some]
  rw [h2,List.drop_zero]
  by_cases a:0 < l.length
  · rw [if_pos (decide_eq_true (by omega))]
    by_cases b:l.length ≤ 8
    · rw [if_pos (decide_eq_true (by omega)),decide_eq_true a,decide_eq_true b];simp
    · rw [if_neg (by rw [decide_eq_false (by omega)];simp),decide_eq_false b];simp
  · rw [if_neg (by rw [decide_eq_false (by omega)];simp),decide_eq_false a];simp
def upS(p:List UInt8):List UInt8:=(iV p).getD [47]
theorem Xv(s:ByteArray):tV s=some (mk (upS (bl s))):=by
  unfold tV upS
  rw [M5]
  simp only [Option.bind_some]
  cases iV (bl s) <;> rfl
def C9(o:Op1):List Pt:=
  let d:=mk (upS (bl o.Path))
  if o.Kind=1 then [⟨1,mk (upS (upS (bl o.Path))),d,mk [],0,0,false⟩,⟨2,d,o.Path,o.Data,0,o.Owner,o.Turns⟩]
  else if o.Kind=2 then [⟨3,d,o.Path,mk [],o.Version,0,false⟩,⟨4,o.Path,o.Path,mk [],0,0,false⟩]
  else if o.Kind=3 then [⟨5,d,o.Path,o.Data,o.Version,0,false⟩]
  else if o.Kind=4 then [⟨6,d,o.Path,mk [],o.Version,0,false⟩]
  else if o.Kind=5 then [⟨7,d,o.Path,mk [],0,0,false⟩]
  else if o.Kind=6 then [⟨8,d,o.Path,mk [],0,0,false⟩,⟨9,o.Path,o.Path,mk [],0,0,false⟩]
  else [⟨8,d,o.Path,mk [],0,0,false⟩,⟨10,o.Path,o.Path,mk [],0,o.Owner,false⟩]
def ofS(o:Op1):List Pt:=if sX o=true then C9 o else []
theorem Wg{o:Op1}(h:sX o=true):(o.Kind=2→o.Owner=0)∧(o.Kind=6→o.Owner=0):=by
  obtain ⟨_,_,_,_,_,h⟩:=Hg h
  refine ⟨fun k=>?_,fun k=>?_⟩
  · rw [k] at h;simp [R8] at h;exact h.1.2
  · rw [k] at h;simp [R8] at h;exact h.1.2
theorem D2(a b:List Pt)(h:a.length+b.length ≤ 1000):mY a b=some (b ++ a):=by
  unfold mY
  rw [fZ (by simp [LIM];omega)]
theorem Ti(o:Op1):E5 o=some (ofS o):=by
  unfold E5 ofS
  rw [Tg]
  simp only [Option.bind_some]
  cases hm:sX o with
  | false=>rw [if_pos (by rfl),if_neg (by simp)]
  | true=>
    obtain ⟨z2,z6⟩:=Wg hm
    have hk:=(Hg hm).1
    rw [if_neg (by simp),if_pos rfl,Xv]
    unfold C9
    simp only [Option.bind_some,rZ,xH,xI,lH]
    have kk:o.Kind=1∨o.Kind=2∨o.Kind=3∨o.Kind=4∨o.Kind=5∨o.Kind=6∨o.Kind=7:=by omega
    rcases kk with c | c | c | c | c | c | c
    all_goals simp only [c,Int.reduceBEq,Int.reduceEq,Bool.false_eq_true,if_true,if_false,beq_self_eq_true]
    · rw [Xv,iF]
      simp only [Option.bind_some]
      rw [D2 _ _ (by simp)]
      rfl
    · rw [D2 _ _ (by simp),z2 c];rfl
    · rw [D2 _ _ (by simp)];rfl
    · rw [D2 _ _ (by simp)];rfl
    · rw [D2 _ _ (by simp)];rfl
    · rw [D2 _ _ (by simp),z6 c];rfl
    · rw [D2 _ _ (by simp)];rfl
def xM:Nat→List Op1→List Pie
  | _,[]=>[]
  | i,o::l=>(ofS o).map (fun p=>⟨(i:Int),p⟩) ++ xM (i+1) l
theorem Nx(o:Op1):(ofS o).length ≤ 2:=by
  unfold ofS C9
  repeat' split
  all_goals simp
theorem Ga(rec:List Pie→Int→Option (List Pie))(u:List Pt)(x:Int)(hu:u.length ≤ 2):∀ (k j:Nat) (acc:List Pie),acc.length ≤ 1000000+j→j ≤ u.length→u.length+1 ≤ j+k→tO rec u x k acc (j:Int)=rec (acc ++ (u.drop j).map (fun p=>⟨x,p⟩)) (IntKind.i64.wrap (x+1))
  | 0,j,acc,_,_,h=>by omega
  | k+1,j,acc,ha,h0,h=>by
    unfold tO
    by_cases hj:j < u.length
    · rw [if_pos (by simpa using hj),dV hj,List.drop_eq_getElem_cons hj]
      simp only [Option.bind_some]
      rw [fZ (by simp [LIM];omega),oV (by omega),Ga rec u x hu k (j+1) _ (by simp;omega) (by omega) (by omega),List.map_cons,List.append_assoc]
      rfl
    · rw [if_neg (by simpa using hj),List.drop_eq_nil_of_le (by omega)]
      simp
theorem Gb(l:List Op1)(hl:l.length ≤ 1000):∀ (k i:Nat) (acc:List Pie),acc.length ≤ 2 * i→i ≤ l.length→l.length+1 ≤ i+k→rF l k acc (i:Int)=some (acc ++ xM i (l.drop i))
  | 0,i,acc,_,_,h=>by omega
  | k+1,i,acc,ha,h0,h=>by
    unfold rF
    by_cases hi:i < l.length
    · have h2:=Nx l[i]
      rw [if_pos (by simpa using hi),dV hi,List.drop_eq_getElem_cons hi]
      simp only [Option.bind_some]
      rw [Ti]
      simp only [Option.bind_some]
      refine (Ga _ _ _ h2 (((ofS l[i]).length:Int) - 0:Int).toNat.succ 0 acc (by omega) (by omega) (by omega)).trans ?_
      rw [oV (by omega),Gb l hl k (i+1) _ (by simp;omega) (by omega) (by omega)]
      simp [xM]
    · rw [if_neg (by simpa using hi),List.drop_eq_nil_of_le (by omega)]
      simp [xM]
def nY(l:List Op1):List Pie:=if Lz l=true then xM 0 l else []
theorem Qs(l:List Op1)(hl:l.length ≤ 1000):zK l=some (nY l):=by
  unfold zK nY
  rw [Mx l (by omega)]
  simp only [Option.bind_some]
  cases hm:Lz l with
  | false=>rw [if_pos (by rfl),if_neg (by simp)]
  | true=>
    rw [if_neg (by simp),if_pos rfl]
    refine (Gb l hl (((l.length:Int) - 0:Int).toNat+1) 0 [] (by simp) (by omega) (by omega)).trans ?_
    simp
end Go.Cb
