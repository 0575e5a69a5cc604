/- A shard that keeps all, plainly: what may be a command, what it comes to. -/
import Derived.Test.YteakhlfapjaodaaGreatDoorD0rsr
import Derived.Test.YteakhlfapjaodaaGreatDoorPsr1
import Derived.Test.YteakhlfapjaodaaGreatDoorKsr2
set_option linter.unusedVariables false
set_option linter.unusedSimpArgs false
namespace Go.Cb
open Go.Proofs Go.RowKit

abbrev Cmd:=aS
def P8:Int→List Pie→Bool
  | _,[]=>true
  | last,x::l=>decide (last ≤ x.Op) && (decide (x.Op < 8) && (pZ x.Part && (decide (x.Part.Version < 281474976710656) && P8 x.Op l)))
theorem Ph(c:Cmd)(hl:c.Pieces.length ≤ 1000000):∀ (k i:Nat) (last:Int),i ≤ c.Pieces.length→c.Pieces.length+1 ≤ i+k→eW c k last (i:Int)=if P8 last (c.Pieces.drop i)=true then fS c (((c.Gone.length:Int) - 0:Int).toNat+1) 0 else some false
  | 0,i,last,_,h=>by omega
  | k+1,i,last,h0,h=>by
    unfold eW
    by_cases hi:i < c.Pieces.length
    · rw [if_pos (by simpa using hi),cI hi,List.drop_eq_getElem_cons hi]
      simp only [Option.bind_some]
      unfold P8 lV
      by_cases a:(c.Pieces[i]).Op < last
      · rw [if_pos (by simpa using a),decide_eq_false (by omega)];simp
      · rw [if_neg (by simpa using a),decide_eq_true (show last ≤ (c.Pieces[i]).Op by omega)]
        by_cases b:(c.Pieces[i]).Op < 8
        · rw [if_neg (by simp;omega),decide_eq_true b,Am]
          simp only [Option.bind_some]
          cases m:pZ (c.Pieces[i]).Part with
          | false=>rw [if_pos (by rfl)];simp
          | true=>
            rw [if_neg (by simp)]
            by_cases v:(c.Pieces[i]).Part.Version < 281474976710656
            · rw [if_neg (by simp;omega),decide_eq_true v,lC (by omega),Ph c hl k (i+1) _ (by omega) (by omega)]
              simp
            · rw [if_pos (by simp;omega),decide_eq_false v];simp
        · rw [if_pos (by simp;omega),decide_eq_false b];simp
    · rw [if_neg (by simpa using hi),List.drop_eq_nil_of_le (by omega)]
      simp [P8]
abbrev zW (kind id txn age:Int) (yes:Bool) (l:List Pie):Cmd:=⟨kind,id,txn,age,yes,l,(ByteArray.mk #[]),0,0,(⟨[],[]⟩:aF),[],(⟨0,0,(ByteArray.mk #[]),false⟩:aP)⟩
def P9(id txn age:Int)(l:List Pie):Bool:=P8 0 l && (decide (l.length ≤ 16) && (yR id && (yR txn && yR age)))
theorem Vs(kind id txn age:Int)(yes:Bool)(l:List Pie)(h1:1 ≤ kind)(h2:kind ≤ 13)(hl:l.length ≤ 1000000):uS (zW kind id txn age yes l)=some (P9 id txn age l):=by
  unfold uS P9
  rw [show eW (zW kind id txn age yes l) ((((zW kind id txn age yes l).Pieces.length:Int) - 0:Int).toNat+1) 0 0=_ from Ph (zW kind id txn age yes l) hl _ 0 0 (by omega) (by omega)]
  rw [List.drop_zero]
  cases P8 0 l with
  | false=>rw [if_neg (by simp)];rfl
  | true=>
    rw [if_pos rfl]
    unfold fS
    rw [if_neg (by simp),if_pos (decide_eq_true h1),if_pos (decide_eq_true h2),if_pos (by rfl),if_pos (by rfl)]
    unfold jA
    by_cases c:l.length ≤ 16
    · rw [if_pos (by simp;omega),Um _ (by simp),decide_eq_true c]
      simp only [Option.bind_some,Bool.true_and]
      have e:([id,txn,age,0,0,0]:List Int).all yR=(yR id && (yR txn && yR age)):=by simp [show yR 0=true from rfl]
      rw [e]
      cases yR id && (yR txn && yR age) with
      | false=>rw [if_neg (by simp)];rfl
      | true=>
        rw [if_pos rfl,AK]
        simp only [Option.bind_some,if_pos]
        unfold lW
        rw [if_pos rfl,if_pos (by rfl),Od]
        simp only [Option.bind_some,if_pos]
        rw [if_pos (by rfl)]
        rfl
    · rw [if_neg (by simp;omega),decide_eq_false c];rfl
section
variable (a:List Nd) (b:List Tn) (c:List aI) (d:List aO) (f:List aP) (g:List aH) (x:List (Int×aW)) (y:List (Int×eR)) (z:List (Int×aW))
abbrev HA (e:Int):aW:=⟨e,0,false,0,[],(⟨[],[]⟩:aF),[],[],[]⟩
theorem HB{kind id txn age:Int}{yes:Bool}{l:List Pie}(h1:1 ≤ kind)(h2:kind ≤ 13)(hl:l.length ≤ 1000000)(h:P9 id txn age l=false):dW a b c d f g x y z (zW kind id txn age yes l)=some (HA 1,a,b,c,d,f,g,x,y,z):=by
  unfold dW
  rw [Vs _ _ _ _ _ _ h1 h2 hl,h]
  simp only [Option.bind_some]
  rw [if_pos (by rfl)]
  unfold nG
  rw [if_pos (by rfl)]
  rfl
theorem HC{id txn age:Int}{yes:Bool}{l:List Pie}(hl:l.length ≤ 1000000)(h:P9 id txn age l=true):dW a b c d f g x y z (zW 1 id txn age yes l)=(rX a b c d f g x (zW 1 id txn age yes l)).bind fun u=>some (u.1,u.2.1,u.2.2.1,c,d,u.2.2.2.1,u.2.2.2.2.1,u.2.2.2.2.2,y,z):=by
  unfold dW
  rw [Vs _ _ _ _ _ _ (by omega) (by omega) hl,h]
  simp only [Option.bind_some]
  rw [if_neg (by simp)]
  unfold nG
  rw [if_neg (by simp),if_pos (by rfl)]
  unfold qS
  rw [if_pos (by rfl),if_pos (by rfl)]
end
/-! ### the directories of pieces -/
theorem Qz(l:List Pie)(hl:l.length ≤ 1000000):∀ (k i:Nat) (acc:List ByteArray),i ≤ l.length→l.length+1 ≤ i+k→acc.length=i→sF l k acc (i:Int)=some (rF (uP (acc ++ (l.drop i).map fun p=>p.Part.Dir)))
  | 0,i,acc,_,h,_=>by omega
  | k+1,i,acc,h0,h,ha=>by
    unfold sF
    by_cases hi:i < l.length
    · rw [if_pos (by simpa using hi),cI hi]
      simp only [Option.bind_some]
      rw [dQ (by simp [LIM];omega),lC (by omega),Qz l hl k (i+1) _ (by omega) (by omega) (by simp [ha]),List.drop_eq_getElem_cons hi,List.map_cons,List.append_assoc,List.singleton_append]
    · rw [if_neg (by simpa using hi),dQ (by omega),dQ (by rw [O8];omega),List.drop_eq_nil_of_le (by omega)]
      simp
theorem BF(l:List Pie)(hl:l.length ≤ 1000000):wK l=some (rF (uP (l.map fun p=>p.Part.Dir))):=by
  unfold wK
  exact (Qz l hl _ 0 [] (by omega) (by omega) rfl).trans (by simp)
theorem Py{α:Type} [Inhabited α] [DecidableEq α] {zs:List α} {x:α} (h:x ∈ Lib.compact zs):x ∈ zs:=by
  unfold Lib.compact Lib.compactUpTo at h
  obtain ⟨i,hi,rfl⟩:=List.mem_map.1 h
  have hi':i < zs.length:=List.mem_range.1 (List.mem_filter.1 hi).1
  simp [getElem!_pos,hi']
theorem Xs{L:List ByteArray}{d:ByteArray}(h:d ∈ rF (uP L)):d ∈ L:=by
  unfold rF uP at h
  rw [Q4] at h
  obtain ⟨s,hs,rfl⟩:=List.mem_map.1 h
  have h2:=(K8 _).mem_iff.1 (Py hs)
  obtain ⟨t,ht,rfl⟩:=List.mem_map.1 h2
  exact ht
theorem Xt(L:List ByteArray):(rF (uP L)).length ≤ L.length:=by
  unfold rF
  rw [List.length_map]
  refine Nat.le_trans ?_ (Nat.le_of_eq (show ((uP L).map toL).length=L.length by rw [List.length_map,O8]))
  unfold Lib.compact Lib.compactUpTo
  rw [List.length_map]
  exact Nat.le_trans (List.length_filter_le _ _) (by simp)
end Go.Cb
