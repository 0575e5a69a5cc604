/- Plain laws of elder seats, at this one. -/
import Derived.Test.YtlgajjcbnimjkaaGreatDoorQAsw
import Derived.Test.YtlgajjcbnimjkaaGreatDoorKsw1
set_option linter.unusedVariables false
set_option linter.unusedSimpArgs false
namespace Go.Cb
open Go.Proofs Go.RowKit

abbrev Pt:=bL
abbrev Pie:=cH
def Hp(l:List Op1):Bool:=decide (0 < l.length) && decide (l.length ≤ 8) && l.all qA
theorem Oc(l:List Op1)(hl:l.length ≤ 1000000):∀ (k i:Nat),i ≤ l.length→l.length+1 ≤ i+k→∃ v:Int,eM l k (i:Int)=some v∧decide (v ≥ 0)= !(l.drop i).all qA
  | 0,i,_,h=>by omega
  | k+1,i,h0,h=>by
    unfold eM
    by_cases hi:i < l.length
    · rw [if_pos (by simpa using hi),eR hi,List.drop_eq_getElem_cons hi]
      simp only [Option.bind_some,v8,Td,List.all_cons]
      cases hm:qA l[i] with
      | false=>rw [if_pos (by rfl)];exact ⟨_,rfl,by simp⟩
      | true=>
        rw [if_neg (by simp),oA (by omega)]
        obtain ⟨v,h1,h2⟩:=Oc l hl k (i+1) (by omega) (by omega)
        exact ⟨v,h1,by rw [h2];simp⟩
    · rw [if_neg (by simpa using hi),List.drop_eq_nil_of_le (by omega)]
      exact ⟨-1,rfl,by simp⟩
theorem Nc(l:List Op1)(hl:l.length ≤ 1000000):s7 l=some (Hp l):=by
  unfold s7 iS jO Hp
  obtain ⟨v,h1,h2⟩:=Oc l hl (((l.length:Int) - 0:Int).toNat+1) 0 (by omega) (by omega)
  rw [show eM l (((l.length:Int) - 0:Int).toNat+1) 0=some v from h1]
  simp only [Option.bind_some]
  rw [h2,List.drop_zero]
  by_cases a:0 < l.length
  · rw [if_pos (decide_eq_true (by omega))]
    by_cases b:l.length ≤ 8
    · rw [if_pos (decide_eq_true (by omega)),decide_eq_true a,decide_eq_true b];simp
    · rw [if_neg (by rw [decide_eq_false (by omega)];simp),decide_eq_false b];simp
  · rw [if_neg (by rw [decide_eq_false (by omega)];simp),decide_eq_false a];simp
def upS(p:List UInt8):List UInt8:=(jB p).getD [47]
theorem Yb(s:ByteArray):uB s=some (mk (upS (bl s))):=by
  unfold uB upS
  rw [N6]
  simp only [Option.bind_some]
  cases jB (bl s) <;> rfl
def eQ(o:Op1):List Pt:=
  let d:=mk (upS (bl o.Path))
  if o.Kind=1 then [⟨1,mk (upS (upS (bl o.Path))),d,mk [],0,0,false⟩,⟨2,d,o.Path,o.Data,0,o.Owner,o.Turns⟩]
  else if o.Kind=2 then [⟨3,d,o.Path,mk [],o.Version,0,false⟩,⟨4,o.Path,o.Path,mk [],0,0,false⟩]
  else if o.Kind=3 then [⟨5,d,o.Path,o.Data,o.Version,0,false⟩]
  else if o.Kind=4 then [⟨6,d,o.Path,mk [],o.Version,0,false⟩]
  else if o.Kind=5 then [⟨7,d,o.Path,mk [],0,0,false⟩]
  else if o.Kind=6 then [⟨8,d,o.Path,mk [],0,0,false⟩,⟨9,o.Path,o.Path,mk [],0,0,false⟩]
  else [⟨8,d,o.Path,mk [],0,0,false⟩,⟨10,o.Path,o.Path,mk [],0,o.Owner,false⟩]
def ofS(o:Op1):List Pt:=if qA o=true then eQ o else []
theorem Wi{o:Op1}(h:qA o=true):(o.Kind=2→o.Owner=0)∧(o.Kind=6→o.Owner=0):=by
  obtain ⟨_,_,_,_,_,h⟩:=Bx h
  refine ⟨fun k=>?_,fun k=>?_⟩
  · rw [k] at h;simp [T3] at h;exact h.1.2
  · rw [k] at h;simp [T3] at h;exact h.1.2
theorem E2(a b:List Pt)(h:a.length+b.length ≤ 1000):mX a b=some (b ++ a):=by
  unfold mX
  rw [gL (by simp [LIM];omega)]
theorem Tf(o:Op1):F3 o=some (ofS o):=by
  unfold F3 ofS
  rw [Td]
  simp only [Option.bind_some]
  cases hm:qA o with
  | false=>rw [if_pos (by rfl),if_neg (by simp)]
  | true=>
    obtain ⟨z2,z6⟩:=Wi hm
    have hk:=(Bx hm).1
    rw [if_neg (by simp),if_pos rfl,Yb]
    unfold eQ
    simp only [Option.bind_some,sG,xP,xQ,lI]
    have kk:o.Kind=1∨o.Kind=2∨o.Kind=3∨o.Kind=4∨o.Kind=5∨o.Kind=6∨o.Kind=7:=by omega
    rcases kk with c | c | c | c | c | c | c
    all_goals simp only [c,Int.reduceBEq,Int.reduceEq,Bool.false_eq_true,if_true,if_false,beq_self_eq_true]
    · rw [Yb,gV]
      simp only [Option.bind_some]
      rw [E2 _ _ (by simp)]
      rfl
    · rw [E2 _ _ (by simp),z2 c];rfl
    · rw [E2 _ _ (by simp)];rfl
    · rw [E2 _ _ (by simp)];rfl
    · rw [E2 _ _ (by simp)];rfl
    · rw [E2 _ _ (by simp),z6 c];rfl
    · rw [E2 _ _ (by simp)];rfl
def vX:Nat→List Op1→List Pie
  | _,[]=>[]
  | i,o::l=>(ofS o).map (fun p=>⟨(i:Int),p⟩) ++ vX (i+1) l
theorem Od(o:Op1):(ofS o).length ≤ 2:=by
  unfold ofS eQ
  repeat' split
  all_goals simp
theorem Gl(rec:List Pie→Int→Option (List Pie))(u:List Pt)(x:Int)(hu:u.length ≤ 2):∀ (k j:Nat) (acc:List Pie),acc.length ≤ 1000000+j→j ≤ u.length→u.length+1 ≤ j+k→tW rec u x k acc (j:Int)=rec (acc ++ (u.drop j).map (fun p=>⟨x,p⟩)) (IntKind.i64.wrap (x+1))
  | 0,j,acc,_,_,h=>by omega
  | k+1,j,acc,ha,h0,h=>by
    unfold tW
    by_cases hj:j < u.length
    · rw [if_pos (by simpa using hj),eR hj,List.drop_eq_getElem_cons hj]
      simp only [Option.bind_some]
      rw [gL (by simp [LIM];omega),oA (by omega),Gl rec u x hu k (j+1) _ (by simp;omega) (by omega) (by omega),List.map_cons,List.append_assoc]
      rfl
    · rw [if_neg (by simpa using hj),List.drop_eq_nil_of_le (by omega)]
      simp
theorem Gm(l:List Op1)(hl:l.length ≤ 1000):∀ (k i:Nat) (acc:List Pie),acc.length ≤ 2 * i→i ≤ l.length→l.length+1 ≤ i+k→rO l k acc (i:Int)=some (acc ++ vX i (l.drop i))
  | 0,i,acc,_,_,h=>by omega
  | k+1,i,acc,ha,h0,h=>by
    unfold rO
    by_cases hi:i < l.length
    · have h2:=Od l[i]
      rw [if_pos (by simpa using hi),eR hi,List.drop_eq_getElem_cons hi]
      simp only [Option.bind_some]
      rw [Tf]
      simp only [Option.bind_some]
      refine (Gl _ _ _ h2 (((ofS l[i]).length:Int) - 0:Int).toNat.succ 0 acc (by omega) (by omega) (by omega)).trans ?_
      rw [oA (by omega),Gm l hl k (i+1) _ (by simp;omega) (by omega) (by omega)]
      simp [vX]
    · rw [if_neg (by simpa using hi),List.drop_eq_nil_of_le (by omega)]
      simp [vX]
def bX(l:List Op1):List Pie:=if Hp l=true then vX 0 l else []
theorem Qq(l:List Op1)(hl:l.length ≤ 1000):zR l=some (bX l):=by
  unfold zR bX
  rw [Nc l (by omega)]
  simp only [Option.bind_some]
  cases hm:Hp l with
  | false=>rw [if_pos (by rfl),if_neg (by simp)]
  | true=>
    rw [if_neg (by simp),if_pos rfl]
    refine (Gm l hl (((l.length:Int) - 0:Int).toNat+1) 0 [] (by simp) (by omega) (by omega)).trans ?_
    simp
end Go.Cb
