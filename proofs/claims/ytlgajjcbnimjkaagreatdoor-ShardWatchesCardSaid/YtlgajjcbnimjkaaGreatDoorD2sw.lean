/- A shard that keeps all, plainly: what may be a command, what it comes to. -/
import Derived.Test.YtlgajjcbnimjkaaGreatDoorD0sw
import Derived.Test.YtlgajjcbnimjkaaGreatDoorV6sw
import Derived.Test.YtlgajjcbnimjkaaGreatDoorKsw3
set_option linter.unusedVariables false
set_option linter.unusedSimpArgs false
namespace Go.Cb
open Go.Proofs Go.RowKit

abbrev Cmd:=aV
def w8:Int→List Pie→Bool
  | _,[]=>true
  | last,x::l=>decide (last ≤ x.Op) && (decide (x.Op < 8) && (rR x.Part && (decide (x.Part.Version < 281474976710656) && w8 x.Op l)))
theorem Mh(c:Cmd)(hl:c.Pieces.length ≤ 1000000):∀ (k i:Nat) (last:Int),i ≤ c.Pieces.length→c.Pieces.length+1 ≤ i+k→fH c k last (i:Int)=if w8 last (c.Pieces.drop i)=true then fS c (((c.Gone.length:Int) - 0:Int).toNat+1) 0 else some false
  | 0,i,last,_,h=>by omega
  | k+1,i,last,h0,h=>by
    unfold fH
    by_cases hi:i < c.Pieces.length
    · rw [if_pos (by simpa using hi),eR hi,List.drop_eq_getElem_cons hi]
      simp only [Option.bind_some]
      unfold w8 lJ
      by_cases a:(c.Pieces[i]).Op < last
      · rw [if_pos (by simpa using a),decide_eq_false (by omega)];simp
      · rw [if_neg (by simpa using a),decide_eq_true (show last ≤ (c.Pieces[i]).Op by omega)]
        by_cases b:(c.Pieces[i]).Op < 8
        · rw [if_neg (by simp;omega),decide_eq_true b,Gn]
          simp only [Option.bind_some]
          cases m:rR (c.Pieces[i]).Part with
          | false=>rw [if_pos (by rfl)];simp
          | true=>
            rw [if_neg (by simp)]
            by_cases v:(c.Pieces[i]).Part.Version < 281474976710656
            · rw [if_neg (by simp;omega),decide_eq_true v,oA (by omega),Mh c hl k (i+1) _ (by omega) (by omega)]
              simp
            · rw [if_pos (by simp;omega),decide_eq_false v];simp
        · rw [if_pos (by simp;omega),decide_eq_false b];simp
    · rw [if_neg (by simpa using hi),List.drop_eq_nil_of_le (by omega)]
      simp [w8]
abbrev I4 (kind id txn age:Int) (yes:Bool) (l:List Pie):Cmd:=⟨kind,id,txn,age,yes,l,(ByteArray.mk #[]),0,0,(⟨[],[]⟩:aW),[],(⟨0,0,(ByteArray.mk #[]),false⟩:aJ)⟩
def J3(id txn age:Int)(l:List Pie):Bool:=w8 0 l && (decide (l.length ≤ 16) && (vU id && (vU txn && vU age)))
theorem FH(kind id txn age:Int)(yes:Bool)(l:List Pie)(h1:1 ≤ kind)(h2:kind ≤ 13)(hl:l.length ≤ 1000000):oI (I4 kind id txn age yes l)=some (J3 id txn age l):=by
  unfold oI J3
  rw [show fH (I4 kind id txn age yes l) ((((I4 kind id txn age yes l).Pieces.length:Int) - 0:Int).toNat+1) 0 0=_ from Mh (I4 kind id txn age yes l) hl _ 0 0 (by omega) (by omega)]
  rw [List.drop_zero]
  cases w8 0 l with
  | false=>rw [if_neg (by simp)];rfl
  | true=>
    rw [if_pos rfl]
    unfold fS
    rw [if_neg (by simp),if_pos (decide_eq_true h1),if_pos (decide_eq_true h2),if_pos (by rfl),if_pos (by rfl)]
    unfold iL
    by_cases c:l.length ≤ 16
    · rw [if_pos (by simp;omega),Ih _ (by simp),decide_eq_true c]
      simp only [Option.bind_some,Bool.true_and]
      have e:([id,txn,age,0,0,0]:List Int).all vU=(vU id && (vU txn && vU age)):=by simp [show vU 0=true from rfl]
      rw [e]
      cases vU id && (vU txn && vU age) with
      | false=>rw [if_neg (by simp)];rfl
      | true=>
        rw [if_pos rfl,Nw]
        simp only [Option.bind_some,if_pos]
        unfold jJ
        rw [if_pos rfl,if_pos (by rfl),Bb]
        simp only [Option.bind_some,if_pos]
        rw [if_pos (by rfl)]
        rfl
    · rw [if_neg (by simp;omega),decide_eq_false c];rfl
section
variable (a:List Nd) (b:List Tn) (c:List aH) (d:List aM) (f:List aJ) (g:List aC) (x:List (Int×aE)) (y:List (Int×bJ)) (z:List (Int×aE))
abbrev JU (e:Int):aE:=⟨e,0,false,0,[],(⟨[],[]⟩:aW),[],[],[]⟩
theorem JV{id txn age:Int}{yes:Bool}{l:List Pie}(hl:l.length ≤ 1000000)(h:J3 id txn age l=true):eA a b c d f g x y z (I4 1 id txn age yes l)=(oS a b c d f g x (I4 1 id txn age yes l)).bind fun u=>some (u.1,u.2.1,u.2.2.1,c,d,u.2.2.2.1,u.2.2.2.2.1,u.2.2.2.2.2,y,z):=by
  unfold eA
  rw [FH _ _ _ _ _ _ (by omega) (by omega) hl,h]
  simp only [Option.bind_some]
  rw [if_neg (by simp)]
  unfold mQ
  rw [if_neg (by simp),if_pos (by rfl)]
  unfold mP
  rw [if_pos (by rfl),if_pos (by rfl)]
end
/-! ### the directories of pieces -/
theorem Oj(l:List Pie)(hl:l.length ≤ 1000000):∀ (k i:Nat) (acc:List ByteArray),i ≤ l.length→l.length+1 ≤ i+k→acc.length=i→rJ l k acc (i:Int)=some (qM (uJ (acc ++ (l.drop i).map fun p=>p.Part.Dir)))
  | 0,i,acc,_,h,_=>by omega
  | k+1,i,acc,h0,h,ha=>by
    unfold rJ
    by_cases hi:i < l.length
    · rw [if_pos (by simpa using hi),eR hi]
      simp only [Option.bind_some]
      rw [gL (by simp [LIM];omega),oA (by omega),Oj l hl k (i+1) _ (by omega) (by omega) (by simp [ha]),List.drop_eq_getElem_cons hi,List.map_cons,List.append_assoc,List.singleton_append]
    · rw [if_neg (by simpa using hi),gL (by omega),gL (by rw [N5];omega),List.drop_eq_nil_of_le (by omega)]
      simp
theorem AG(l:List Pie)(hl:l.length ≤ 1000000):vS l=some (qM (uJ (l.map fun p=>p.Part.Dir))):=by
  unfold vS
  exact (Oj l hl _ 0 [] (by omega) (by omega) rfl).trans (by simp)
theorem Nf{α:Type} [Inhabited α] [DecidableEq α] {zs:List α} {x:α} (h:x ∈ Lib.compact zs):x ∈ zs:=by
  unfold Lib.compact Lib.compactUpTo at h
  obtain ⟨i,hi,rfl⟩:=List.mem_map.1 h
  have hi':i < zs.length:=List.mem_range.1 (List.mem_filter.1 hi).1
  simp [getElem!_pos,hi']
theorem Wm{L:List ByteArray}{d:ByteArray}(h:d ∈ qM (uJ L)):d ∈ L:=by
  unfold qM uJ at h
  rw [Q1] at h
  obtain ⟨s,hs,rfl⟩:=List.mem_map.1 h
  have h2:=(J2 _).mem_iff.1 (Nf hs)
  obtain ⟨t,ht,rfl⟩:=List.mem_map.1 h2
  exact ht
theorem Wn(L:List ByteArray):(qM (uJ L)).length ≤ L.length:=by
  unfold qM
  rw [List.length_map]
  refine Nat.le_trans ?_ (Nat.le_of_eq (show ((uJ L).map toL).length=L.length by rw [List.length_map,N5]))
  unfold Lib.compact Lib.compactUpTo
  rw [List.length_map]
  exact Nat.le_trans (List.length_filter_le _ _) (by simp)
end Go.Cb
