/- A shard that one watches, plainly: commands. -/
import Derived.Test.YtlgajjcbnimjkaaGreatDoorW2sw
import Derived.Test.YtlgajjcbnimjkaaGreatDoorDRsw
set_option linter.unusedVariables false
set_option linter.unusedSimpArgs false
namespace Go.Cb
open Go.Proofs Go.RowKit

def qC(s:Sto)(l:List Pie)(z:Bool×Int×List Ev):Bool×Int×List Ev:=if (eE s 0 s [] l).2.2.1 ≠ 0 then z else mD z (fW l (eE s 0 s [] l).2.1)
theorem MM(s:Sto)(l:List Pie)(S:gM s)(hn:s.Nodes.length ≤ 50000)(ht:s.Turns.length ≤ 50000)(hl:l.length ≤ 100)(hm:∀ p ∈ l,rR p.Part=true)(z:Bool×Int×List Ev)(H:pC z.2.1 z.2.2)(hz:z.2.1 ≤ 1000000000) :
    oY s.Nodes s.Turns (wsB z.1) [⟨1,z.2.1,z.2.2⟩] l=some (B9 s l,(wZ s l).Nodes,(wZ s l).Turns,wsB (qC s l z).1,[⟨1,(qC s l z).2.1,(qC s l z).2.2⟩]):=by
  unfold oY B9 wZ qC
  obtain ⟨h1,h2⟩:=Dj s l S hn ht (by omega) hm
  rw [show (⟨s.Nodes,s.Turns⟩:Sto)=s from rfl,h1]
  simp only [Option.bind_some]
  by_cases e:(eE s 0 s [] l).2.2.1=0
  · obtain ⟨_,_,_,g4,g5⟩:=h2 e
    rw [if_neg (by simpa using e),if_neg (by simpa using e),if_neg (by simpa using e),if_neg (by simpa using e),JX _ _ hl g4 g5 z H hz]
    rfl
  · rw [if_pos (by simpa using e),if_pos e,if_pos e,if_pos e]
theorem MN{e:Int}(h1:0 ≤ e)(h2:e ≤ 281474976710656)(s:Sto)(l:List Pie)(S:gM s)(hn:s.Nodes.length ≤ 50000)(ht:s.Turns.length ≤ 50000)(hl:l.length ≤ 100)(hm:∀ p ∈ l,rR p.Part=true)(kind id txn age:Int)(yes:Bool)(z:Bool×Int×List Ev)(H:pC z.2.1 z.2.2)(hz:z.2.1 ≤ 1000000000) :
    rY s.Nodes s.Turns (nH e) [] (wsB z.1) [⟨1,z.2.1,z.2.2⟩] (I4 kind id txn age yes l)=some (B9 s l,(wZ s l).Nodes,(wZ s l).Turns,wsB (qC s l z).1,[⟨1,(qC s l z).2.1,(qC s l z).2.2⟩]):=by
  unfold rY
  rw [AG _ (by show l.length ≤ 1000000;omega)]
  simp only [Option.bind_some]
  have len:(qM (uJ (l.map fun p=>p.Part.Dir))).length ≤ 1000000:=Nat.le_trans (Wn _) (by rw [List.length_map];omega)
  rw [JY _ len,Qx h1 h2 _ len (AH hm)]
  simp only [Option.bind_some]
  rw [if_pos (by rfl)]
  unfold oR oQ
  rw [if_neg (by simp),if_neg (by simp),show (I4 kind id txn age yes l).Pieces=l from rfl,MM s l S hn ht hl hm z H hz]
  rfl
theorem FJ{e:Int}(h1:0 ≤ e)(h2:e ≤ 281474976710656)(s:Sto)(l:List Pie)(S:gM s)(hn:s.Nodes.length ≤ 50000)(ht:s.Turns.length ≤ 50000)(txn age:Int)(yes:Bool)(h:J3 0 txn age l=true)(z:Bool×Int×List Ev)(H:pC z.2.1 z.2.2)(hz:z.2.1 ≤ 1000000000)(y v) :
    eA s.Nodes s.Turns (nH e) [] (wsB z.1) [⟨1,z.2.1,z.2.2⟩] [] y v (I4 1 0 txn age yes l)=some (B9 s l,(wZ s l).Nodes,(wZ s l).Turns,nH e,[],wsB (qC s l z).1,[⟨1,(qC s l z).2.1,(qC s l z).2.2⟩],[],y,v):=by
  obtain ⟨m1,m2,m3,m4,m5⟩:=Ip h
  rw [JV _ _ _ _ _ _ _ _ _ (by omega) h]
  unfold oS K5 mlk
  rw [show (I4 1 0 txn age yes l).Id=0 from rfl,if_pos (EW (by omega) (by omega))]
  simp only [Option.map_some,Option.bind_some,fM]
  unfold pQ
  rw [if_neg (by simp),show (I4 1 0 txn age yes l).Id=0 from rfl,if_neg (by simp)]
  unfold lY
  rw [if_neg (by simp),MN h1 h2 s l S hn ht (by omega) m1 _ _ _ _ _ z H hz]
  simp only [Option.bind_some]
  rw [if_neg (by simp)]
  unfold jK lX
  rw [if_neg (by simp)]
  rfl
/-- a CmdTake of session 1. -/
abbrev Wq (e:Int):Cmd:=⟨10,0,0,0,false,[],(ByteArray.mk #[]),e,0,(⟨[],[]⟩:aW),[],(⟨1,0,(ByteArray.mk #[]),false⟩:aJ)⟩
theorem FK(e:Int)(h1:0 ≤ e)(h2:e ≤ 281474976710656):oI (Wq e)=some true:=by
  unfold oI fH
  rw [if_neg (by simp)]
  unfold fS
  rw [if_neg (by simp),if_pos (by rfl),if_pos (by rfl),if_pos (by rfl),if_pos (by rfl)]
  unfold iL
  rw [if_pos (by rfl),Ih _ (by simp)]
  simp only [Option.bind_some]
  rw [if_pos (show ([0,0,0,e,1,0]:List Int).all vU=true by rw [List.all_eq_true];intro n hn;simp only [List.mem_cons,List.not_mem_nil,or_false] at hn;rcases hn with rfl | rfl | rfl | rfl | rfl | rfl <;> first | exact Sq h1 h2 | rfl),Nw]
  simp only [Option.bind_some,if_pos]
  unfold jJ
  rw [if_pos rfl,if_pos (by rfl),Bb]
  simp only [Option.bind_some,if_pos]
  rw [if_pos (by rfl)]
  rfl
abbrev Wr (l:List Ev):aE:=⟨0,0,false,0,[],(⟨[],[]⟩:aW),l,[],[]⟩
theorem AL(a:List Nd)(b:List Tn)(c:List aH)(d:List aM)(y v)(u:Int)(h1:0 ≤ u)(h2:u ≤ 281474976710656)(z:Bool×Int×List Ev)(H:pC z.2.1 z.2.2) :
    eA a b c d (wsB z.1) [⟨1,z.2.1,z.2.2⟩] [] y v (Wq u)=some (Wr (z.2.2.filter fun x=>!decide (x.Num ≤ u)),a,b,c,d,wsB z.1,[⟨1,z.2.1,z.2.2.filter fun x=>!decide (x.Num ≤ u)⟩],[],y,v):=by
  unfold eA
  rw [FK u h1 h2]
  simp only [Option.bind_some]
  rw [if_neg (by simp)]
  unfold mQ
  rw [if_neg (by simp),if_neg (by simp)]
  unfold mP
  rw [if_pos (by rfl),if_neg (by simp),if_neg (by simp),if_neg (by simp),if_pos (by rfl)]
  unfold uN K5 mlk
  rw [if_pos (EW (by simp) (by simp))]
  simp only [Option.map_some,Option.bind_some,fM]
  unfold rI
  rw [if_neg (by simp),if_neg (by simp)]
  unfold nU uM
  rw [if_neg (by simp),JW H]
  simp only [Option.bind_some]
  unfold kY
  rw [if_neg (by simp)]
  simp only [Option.bind_some]
  rw [if_neg (by simp)]
  unfold kZ nT
  rw [if_neg (by simp)]
  rfl
/-! ### what each operation tells -/
def oX(o:Op1)(r:List Res):Nat:=if o.Kind=1∨o.Kind=2∨o.Kind=3 then 1 else if o.Kind=7 then ((r[1]?).map (fun x=>x.Names.length)).getD 0 else 0
theorem E9(o:Op1):bX [o]=if qA o=true then (eQ o).map (fun p=>(⟨0,p⟩:Pie)) else []:=by
  unfold bX Hp
  cases h:qA o with
  | false=>rw [if_neg (by simp [h]),if_neg (by simp)]
  | true=>rw [if_pos (by simp [h]),if_pos rfl];simp [vX,ofS,h]
theorem Ws{s:Sto}{p:Pt1}(hm:rR p=true)(hk:p.Kind=2)(he:(doP s p).2.Err=0):dQ (bl (doP s p).2.Path)=true:=by
  obtain ⟨q,hq⟩:=Q3 hm hk
  have hu:upP (bl p.Path)=q:=by unfold upP;rw [hq];rfl
  unfold doP at he ⊢
  rw [if_pos hk] at he ⊢
  unfold Mg at he ⊢
  rw [hu] at he ⊢
  cases hn:B7 (pop p) q (nW s.Turns q) with
  | none=>rw [hn] at he;simp [res] at he
  | some t=>
    rw [hn] at he
    simp only at he ⊢
    split at he
    · simp [res] at he
    · rename_i c
      rw [if_neg c]
      simp only
      rw [gV]
      exact (Bh (Df (o:=pop p) hq hn).1).1
theorem Rb{s:Sto}{p:Pt1}(hk:p.Kind=10):∀ n ∈ (doP s p).2.Names,dQ (bl (os2 (uQ (bl p.Path) (bl n))).1)=true:=by
  intro n hn
  unfold doP at hn
  rw [if_neg (by omega),if_neg (by omega),if_neg (by omega),if_pos hk] at hn
  simp only at hn
  obtain ⟨x,hx,rfl⟩:=List.mem_map.1 hn
  have ho:=(List.mem_filter.1 hx).2
  unfold sF uR at ho
  simp only [Bool.and_eq_true,decide_eq_true_eq] at ho
  obtain ⟨ps,t,a1,a2,a3,a4,a5,a6,a7⟩:=J7 ho.2
  have j:=De a3 a7 a5
  have e:bl (yQ x)=t:=by unfold yQ;rw [gV,a4]
  rw [e,j.1]
  show dQ (bl (mk (nG (ps ++ [t]))))=true
  rw [gV]
  unfold dQ
  rw [j.2.2.2]
  rfl
end Go.Cb
