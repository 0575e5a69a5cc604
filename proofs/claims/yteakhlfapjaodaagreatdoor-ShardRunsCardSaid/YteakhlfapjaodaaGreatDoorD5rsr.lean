/- ShardRuns, plainly: pieces that run answer what they make, and make it. -/
import Derived.Test.YteakhlfapjaodaaGreatDoorDRrsr
import Derived.Test.YteakhlfapjaodaaGreatDoorKsr4
set_option linter.unusedVariables false
set_option linter.unusedSimpArgs false
namespace Go.Cb
open Go.Proofs Go.RowKit

theorem HZ{e:Int}(h1:0 ≤ e)(h2:e ≤ 281474976710656)(s:Sto)(l:List Pie)(S:eV s)(hn:s.Nodes.length ≤ 50000)(ht:s.Turns.length ≤ 50000)(hl:l.length ≤ 1000)(hm:∀ p ∈ l,pZ p.Part=true)(kind id txn age:Int)(yes:Bool) :
    sQ s.Nodes s.Turns (vB e) [] [] [] (zW kind id txn age yes l)=some (T6 s l,(A7 s l).Nodes,(A7 s l).Turns,[],[]):=by
  unfold sQ
  rw [BF _ (by show l.length ≤ 1000000;omega)]
  simp only [Option.bind_some]
  have len:(rF (uP (l.map fun p=>p.Part.Dir))).length ≤ 1000000:=Nat.le_trans (Xt _) (by rw [List.length_map];omega)
  rw [HE _ len,Sv h1 h2 _ len (BH hm)]
  simp only [Option.bind_some]
  rw [if_pos (by rfl)]
  unfold pT pS
  rw [if_neg (by simp),if_neg (by simp),show (zW kind id txn age yes l).Pieces=l from rfl,HY s l S hn ht hl hm]
  unfold T6 A7
  by_cases c:(hZ s 0 s [] l).2.2.1=0
  · rw [if_neg (by simpa using c),if_neg (by simpa using c),if_neg (by simpa using c)];rfl
  · rw [if_pos c,if_pos c,if_pos c];rfl
theorem FG{e:Int}(h1:0 ≤ e)(h2:e ≤ 281474976710656)(s:Sto)(l:List Pie)(S:eV s)(hn:s.Nodes.length ≤ 50000)(ht:s.Turns.length ≤ 50000)(id txn age:Int)(yes:Bool)(h:P9 id txn age l=true)(y z) :
    ∃ x,dW s.Nodes s.Turns (vB e) [] [] [] [] y z (zW 1 id txn age yes l)=some (T6 s l,(A7 s l).Nodes,(A7 s l).Turns,vB e,[],[],[],x,y,z):=by
  obtain ⟨m1,m2,m3,m4,m5⟩:=Lf h
  have idk:(kyI .i64).ok id=true:=by
    simp only [yR,Bool.and_eq_true,decide_eq_true_eq] at m3
    exact HT m3.1 m3.2
  rw [HC _ _ _ _ _ _ _ _ _ (by omega) h]
  unfold rX Fk mlk
  rw [show (zW 1 id txn age yes l).Id=id from rfl,if_pos idk]
  simp only [Option.map_some,Option.bind_some,eP]
  unfold sG
  rw [if_neg (by simp)]
  have key:∃ x,lG ([]:List (Int×aW)) (zW 1 id txn age yes l) s.Nodes s.Turns [] [] (vB e) [] false=some (T6 s l,(A7 s l).Nodes,(A7 s l).Turns,[],[],x):=by
    unfold lG
    rw [if_neg (by simp),HZ h1 h2 s l S hn ht (by omega) m1]
    simp only [Option.bind_some]
    have k4:∀ b,∃ x,iP (T6 s l,(A7 s l).Nodes,(A7 s l).Turns,[],[]) ([]:List (Int×aW)) (zW 1 id txn age yes l) b=some (T6 s l,(A7 s l).Nodes,(A7 s l).Turns,[],[],x):=by
      intro b
      unfold iP mpt oV
      cases b with
      | true=>rw [if_pos rfl,if_pos ⟨idk,by simp [maxLen]⟩];exact ⟨_,rfl⟩
      | false=>rw [if_neg (by simp)];exact ⟨_,rfl⟩
    split
    · split
      · exact k4 _
      · exact k4 _
    · exact k4 _
  obtain ⟨x,hx⟩:=key
  refine ⟨x,?_⟩
  rw [show ((([]:List (Int×aW)).length:Int) == 512)=false from rfl,hx]
  split <;> rfl
theorem Sw(l:List Pie)(id:Int):∃ b,qW (zW 1 id 0 0 false l)=some b∧(b=false→l.length ≤ 60∧SmP l):=by
  unfold qW
  rw [show (((3000 - ((zW 1 id 0 0 false l).Gone.length:Int):Int).toNat)+1)=3001 from rfl]
  unfold oC
  rw [if_neg (by simp)]
  unfold oA
  rw [if_neg (by simp),if_neg (by simp [show (ByteArray.mk #[]).size=0 from rfl]),if_neg (by simp [show (ByteArray.mk #[]).size=0 from rfl])]
  obtain ⟨b,h1,h2⟩:=Ke l
  rw [show (zW 1 id 0 0 false l).Pieces=l from rfl,h1]
  simp only [Option.bind_some]
  cases b with
  | true=>exact ⟨true,rfl,fun h=>by cases h⟩
  | false=>
    rw [if_neg (by simp),show kM (zW 1 id 0 0 false l).Store=some false by kernel_rfl]
    exact ⟨false,rfl,fun _=>h2 rfl⟩
theorem BI(s:Sto)(l:List Pie)(id:Int)(S:eV s)(hs:SmS s)(g2:s.Nodes.length ≤ 1666)(g3:s.Turns.length < 3000)(hl:l.length ≤ 60)(sp:SmP l):gS true s l (s.Nodes,s.Turns,vB 0) id false=some true:=by
  unfold gS vV
  rw [if_neg (by simp)]
  obtain ⟨r,q1,q2,q3,q4,q5,q6⟩:=Pg s l hl sp ⟨by omega,by omega⟩ (((l.length:Int) - 0:Int).toNat+1) 0 s [] hs (by omega) (by omega) (by omega) (by omega) (by simp) (by simp)
  rw [show hG s l (((l.length:Int) - 0:Int).toNat+1) [] 0 s.Nodes s.Turns=some r from q2]
  simp only [Option.bind_some]
  have same1:jC s s=some true:=by rw [Pf _ _ (by omega) (by omega)];simp
  cases hc:P9 id 0 0 l with
  | false=>
    rw [HB _ _ _ _ _ _ _ _ _ (by omega) (by omega) (by omega) hc]
    simp only [Option.bind_some]
    rw [if_pos (by rfl),if_pos (by rfl),Iv s (by omega) (by omega)]
    simp only [Option.bind_some]
    rw [same1]
    rfl
  | true=>
    obtain ⟨m1,m2,m3,m4,m5⟩:=Lf hc
    obtain ⟨x,hx⟩:=FG (e:=0) (by omega) (by omega) s l S (by omega) (by omega) id 0 0 false hc [] []
    rw [hx]
    simp only [Option.bind_some]
    obtain ⟨a1,a2⟩:=Fe s l S (by omega) (by omega) (by omega) m1
    have hr:r=hZ s 0 s [] l:=by
      have:vJ s l=some r:=q1
      rw [a1] at this
      exact (Option.some.inj this).symm
    rw [hr] at q3 q4 q5 q6 ⊢
    clear hr q1 q2
    by_cases e:(hZ s 0 s [] l).2.2.1=0
    · obtain ⟨b1,b2,b3,b4,b5⟩:=a2 e
      have ha:T6 s l= ⟨0,0,false,0,(hZ s 0 s [] l).2.1,⟨[],[]⟩,[],[],[]⟩:=by unfold T6;rw [if_neg (by simpa using e)]
      have ht:A7 s l=(hZ s 0 s [] l).1:=by unfold A7;rw [if_neg (by simpa using e)]
      rw [ha,ht,if_neg (by simp)]
      unfold dN
      rw [if_neg (by simp),if_neg (by simpa using e),if_pos rfl,if_pos (by rfl),Lu _ (by omega) (fun x hx=>(b5 x hx).1)]
      simp only [Option.bind_some,if_true]
      rw [Iv _ (by omega) (by omega)]
      simp only [Option.bind_some]
      rw [Pf _ _ (by omega) (by omega)]
      simp
    · have ha:T6 s l= ⟨(hZ s 0 s [] l).2.2.1,(hZ s 0 s [] l).2.2.2,false,0,[],⟨[],[]⟩,[],[],[]⟩:=by unfold T6;rw [if_pos e]
      have ht:A7 s l=s:=by unfold A7;rw [if_pos e]
      rw [ha,ht,Iv s (by omega) (by omega)]
      simp only [Option.bind_some]
      rw [same1]
      simp only [Option.bind_some]
      have j2f:dN true (hZ s 0 s [] l) ((⟨(hZ s 0 s [] l).2.2.1,(hZ s 0 s [] l).2.2.2,false,0,[],⟨[],[]⟩,[],[],[]⟩:aW),s.Nodes,s.Turns,vB 0,[],[],[],x,[],[]) s false=some true:=by
        unfold dN
        rw [if_neg (by simp),if_pos (by simpa using e),if_pos rfl,if_pos (by simp),if_pos (by simp),Iv s (by omega) (by omega)]
        simp only [Option.bind_some]
        rw [same1]
        rfl
      have j2t:dN true (hZ s 0 s [] l) ((⟨(hZ s 0 s [] l).2.2.1,(hZ s 0 s [] l).2.2.2,false,0,[],⟨[],[]⟩,[],[],[]⟩:aW),s.Nodes,s.Turns,vB 0,[],[],[],x,[],[]) s true=some true:=by
        unfold dN
        rw [if_pos rfl]
      rw [j2f,j2t]
      split
      · split <;> rfl
      · rfl
theorem Sx(s:Sto)(l:List Pie)(id:Int)(hn:s.Nodes.length ≤ 140737488351232)(ht:s.Turns.length ≤ 140737488351232):mU s l id=some true:=by
  unfold mU yA
  rw [Xa]
  simp only [Option.bind_some]
  obtain ⟨b,h1,h2⟩:=N4 s hn ht
  rw [h1]
  simp only [Option.bind_some]
  cases b with
  | false=>rw [if_pos (by rfl)];rfl
  | true=>
    have S:=h2.1 rfl
    rw [if_neg (by simp),show qE ([(⟨(ByteArray.mk #[47]),0,1⟩:aI)]:List aI)=some true from Fd (e:=0) (by omega) (by omega)]
    simp only [Option.bind_some]
    unfold wG
    rw [if_neg (by simp)]
    simp only [Option.bind_some,Fi]
    obtain ⟨b,h3,h4⟩:=Vr s hn
    rw [h3]
    simp only [Option.bind_some]
    cases b with
    | true=>rw [if_pos rfl];rfl
    | false=>
      obtain ⟨g1,g2,g3⟩:=h4 rfl
      rw [if_neg (by simp)]
      obtain ⟨c,h5,h6⟩:=Sw l id
      rw [h5]
      simp only [Option.bind_some]
      cases c with
      | true=>rfl
      | false=>exact BI s l id S g1 g2 g3 (h6 rfl).1 (h6 rfl).2
end Go.Cb
