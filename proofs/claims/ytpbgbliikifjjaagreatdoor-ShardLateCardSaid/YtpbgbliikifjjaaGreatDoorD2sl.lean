/- A shard that keeps all, plainly: what may be a command, what it comes to. -/
import Derived.Test.YtpbgbliikifjjaaGreatDoorD0sl
import Derived.Test.YtpbgbliikifjjaaGreatDoorU5sl
import Derived.Test.YtpbgbliikifjjaaGreatDoorKsl3
set_option linter.unusedVariables false
set_option linter.unusedSimpArgs false
namespace Go.Cb
open Go.Proofs Go.RowKit

abbrev Cmd:=aU
def s7:Int→List Pie→Bool
  | _,[]=>true
  | last,x::l=>decide (last ≤ x.Op) && (decide (x.Op < 8) && (tM x.Part && (decide (x.Part.Version < 281474976710656) && s7 x.Op l)))
theorem Mg(c:Cmd)(hl:c.Pieces.length ≤ 1000000):∀ (k i:Nat) (last:Int),i ≤ c.Pieces.length→c.Pieces.length+1 ≤ i+k→fF c k last (i:Int)=if s7 last (c.Pieces.drop i)=true then gB c (((c.Gone.length:Int) - 0:Int).toNat+1) 0 else some false
  | 0,i,last,_,h=>by omega
  | k+1,i,last,h0,h=>by
    unfold fF
    by_cases hi:i < c.Pieces.length
    · rw [if_pos (by simpa using hi),dV hi,List.drop_eq_getElem_cons hi]
      simp only [Option.bind_some]
      unfold s7 lI
      by_cases a:(c.Pieces[i]).Op < last
      · rw [if_pos (by simpa using a),decide_eq_false (by omega)];simp
      · rw [if_neg (by simpa using a),decide_eq_true (show last ≤ (c.Pieces[i]).Op by omega)]
        by_cases b:(c.Pieces[i]).Op < 8
        · rw [if_neg (by simp;omega),decide_eq_true b,Gc]
          simp only [Option.bind_some]
          cases m:tM (c.Pieces[i]).Part with
          | false=>rw [if_pos (by rfl)];simp
          | true=>
            rw [if_neg (by simp)]
            by_cases v:(c.Pieces[i]).Part.Version < 281474976710656
            · rw [if_neg (by simp;omega),decide_eq_true v,oV (by omega),Mg c hl k (i+1) _ (by omega) (by omega)]
              simp
            · rw [if_pos (by simp;omega),decide_eq_false v];simp
        · rw [if_pos (by simp;omega),decide_eq_false b];simp
    · rw [if_neg (by simpa using hi),List.drop_eq_nil_of_le (by omega)]
      simp [s7]
abbrev rJ (kind id txn age:Int) (yes:Bool) (l:List Pie):Cmd:=⟨kind,id,txn,age,yes,l,(ByteArray.mk #[]),0,0,(⟨[],[]⟩:aR),[],(⟨0,0,(ByteArray.mk #[]),false⟩:aK)⟩
def a8(id txn age:Int)(l:List Pie):Bool:=s7 0 l && (decide (l.length ≤ 16) && (sW id && (sW txn && sW age)))
theorem Ub(kind id txn age:Int)(yes:Bool)(l:List Pie)(h1:1 ≤ kind)(h2:kind ≤ 13)(hl:l.length ≤ 1000000):tX (rJ kind id txn age yes l)=some (a8 id txn age l):=by
  unfold tX a8
  rw [show fF (rJ kind id txn age yes l) ((((rJ kind id txn age yes l).Pieces.length:Int) - 0:Int).toNat+1) 0 0=_ from Mg (rJ kind id txn age yes l) hl _ 0 0 (by omega) (by omega)]
  rw [List.drop_zero]
  cases s7 0 l with
  | false=>rw [if_neg (by simp)];rfl
  | true=>
    rw [if_pos rfl]
    unfold gB
    rw [if_neg (by simp),if_pos (decide_eq_true h1),if_pos (decide_eq_true h2),if_pos (by rfl),if_pos (by rfl)]
    unfold jE
    by_cases c:l.length ≤ 16
    · rw [if_pos (by simp;omega),Ss _ (by simp),decide_eq_true c]
      simp only [Option.bind_some,Bool.true_and]
      have e:([id,txn,age,0,0,0]:List Int).all sW=(sW id && (sW txn && sW age)):=by simp [show sW 0=true from rfl]
      rw [e]
      cases sW id && (sW txn && sW age) with
      | false=>rw [if_neg (by simp)];rfl
      | true=>
        rw [if_pos rfl,Zw]
        simp only [Option.bind_some,if_pos]
        unfold lJ
        rw [if_pos rfl,if_pos (by rfl),Lq]
        simp only [Option.bind_some,if_pos]
        rw [if_pos (by rfl)]
        rfl
    · rw [if_neg (by simp;omega),decide_eq_false c];rfl
section
variable (a:List Nd) (b:List Tn) (c:List aG) (d:List aN) (f:List aK) (g:List aD) (x:List (Int×aH)) (y:List (Int×bQ)) (z:List (Int×aH))
abbrev Bp (e:Int):aH:=⟨e,0,false,0,[],(⟨[],[]⟩:aR),[],[],[]⟩
theorem Uc{id txn age:Int}{yes:Bool}{l:List Pie}(hl:l.length ≤ 1000000)(h:a8 id txn age l=true):cT a b c d f g x y z (rJ 2 id txn age yes l)=(kX a b c d y (rJ 2 id txn age yes l)).bind fun u=>some (u.1,a,b,c,u.2.1,f,g,x,u.2.2,z):=by
  unfold cT
  rw [Ub _ _ _ _ _ _ (by omega) (by omega) hl,h]
  simp only [Option.bind_some]
  rw [if_neg (by simp)]
  unfold mQ
  rw [if_neg (by simp),if_neg (by simp)]
  unfold mP
  rw [if_neg (by simp),if_neg (by simp)]
  unfold mO
  rw [if_neg (by simp),if_pos (by rfl)]
theorem Qz{id txn age:Int}{yes:Bool}{l:List Pie}(hl:l.length ≤ 1000000)(h:a8 id txn age l=true):cT a b c d f g x y z (rJ 3 id txn age yes l)=(jO a b d f g y (rJ 3 id txn age yes l)).bind fun u=>some (u.1,u.2.1,u.2.2.1,c,u.2.2.2.1,u.2.2.2.2.1,u.2.2.2.2.2.1,x,u.2.2.2.2.2.2,z):=by
  unfold cT
  rw [Ub _ _ _ _ _ _ (by omega) (by omega) hl,h]
  simp only [Option.bind_some]
  rw [if_neg (by simp)]
  unfold mQ
  rw [if_neg (by simp),if_neg (by simp)]
  unfold mP
  rw [if_neg (by simp),if_neg (by simp)]
  unfold mO
  rw [if_neg (by simp),if_neg (by simp),if_pos (by rfl)]
end
/-! ### the directories of pieces -/
theorem Oe(l:List Pie)(hl:l.length ≤ 1000000):∀ (k i:Nat) (acc:List ByteArray),i ≤ l.length→l.length+1 ≤ i+k→acc.length=i→rB l k acc (i:Int)=some (oY (tB (acc ++ (l.drop i).map fun p=>p.Part.Dir)))
  | 0,i,acc,_,h,_=>by omega
  | k+1,i,acc,h0,h,ha=>by
    unfold rB
    by_cases hi:i < l.length
    · rw [if_pos (by simpa using hi),dV hi]
      simp only [Option.bind_some]
      rw [fZ (by simp [LIM];omega),oV (by omega),Oe l hl k (i+1) _ (by omega) (by omega) (by simp [ha]),List.drop_eq_getElem_cons hi,List.map_cons,List.append_assoc,List.singleton_append]
    · rw [if_neg (by simpa using hi),fZ (by omega),fZ (by rw [M3];omega),List.drop_eq_nil_of_le (by omega)]
      simp
theorem AH(l:List Pie)(hl:l.length ≤ 1000000):vO l=some (oY (tB (l.map fun p=>p.Part.Dir))):=by
  unfold vO
  exact (Oe l hl _ 0 [] (by omega) (by omega) rfl).trans (by simp)
theorem My{α:Type} [Inhabited α] [DecidableEq α] {zs:List α} {x:α} (h:x ∈ Lib.compact zs):x ∈ zs:=by
  unfold Lib.compact Lib.compactUpTo at h
  obtain ⟨i,hi,rfl⟩:=List.mem_map.1 h
  have hi':i < zs.length:=List.mem_range.1 (List.mem_filter.1 hi).1
  simp [getElem!_pos,hi']
theorem Wl{L:List ByteArray}{d:ByteArray}(h:d ∈ oY (tB L)):d ∈ L:=by
  unfold oY tB at h
  rw [O7] at h
  obtain ⟨s,hs,rfl⟩:=List.mem_map.1 h
  have h2:=(H9 _).mem_iff.1 (My hs)
  obtain ⟨t,ht,rfl⟩:=List.mem_map.1 h2
  exact ht
theorem Wm(L:List ByteArray):(oY (tB L)).length ≤ L.length:=by
  unfold oY
  rw [List.length_map]
  refine Nat.le_trans ?_ (Nat.le_of_eq (show ((tB L).map toL).length=L.length by rw [List.length_map,M3]))
  unfold Lib.compact Lib.compactUpTo
  rw [List.length_map]
  exact Nat.le_trans (List.length_filter_le _ _) (by simp)
end Go.Cb
