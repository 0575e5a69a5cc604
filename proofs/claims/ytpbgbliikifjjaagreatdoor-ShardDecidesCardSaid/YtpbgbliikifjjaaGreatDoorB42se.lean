/- Base 42: whole numbers as floats of 64 bits: which of two is greater, told by the sign of their difference. -/
import Derived.Test.YtpbgbliikifjjaaGreatDoorB41se
set_option linter.unusedVariables false
set_option linter.unusedSimpArgs false
set_option maxRecDepth 20000
namespace Go.Cb
open Ieee
/-- a word that stands for a whole number. -/
def Std(x:Nat)(n:Int):Prop:=∃ (s:Bool) (m p:Nat),Ieee.double.read x= .number s m (-(p:Int))∧p ≤ 1074∧signed s m 0=n * 2 ^ p
theorem Ej:Ieee.double.binade=4503599627370496:=by decide
theorem Ek:Ieee.double.infRung=9218868437227405312:=by decide
theorem sgw:Ieee.double.signWeight=9223372036854775808:=by decide
theorem lst:Ieee.double.leastPlace= -1074:=by decide
theorem Ti:Ieee.double.fractionBits=52:=rfl
theorem Tj(s:Bool)(n:Nat):Toward.even.cut s n 0=n:=by
  unfold Toward.cut
  simp [Nat.mod_one]
theorem Fx(s:Bool){R:Nat}(h:R < 9223372036854775808):Ieee.double.word s R % 9223372036854775808=R∧(Ieee.double.word s R / 9223372036854775808 % 2 == 1)=s:=by
  unfold Format.word
  rw [sgw]
  cases s with
  | false=>
    refine ⟨by simp;omega,?_⟩
    have:R / 9223372036854775808=0:=by omega
    simp [this]
  | true=>
    refine ⟨by simp;omega,?_⟩
    have:(9223372036854775808+R) / 9223372036854775808=1:=by omega
    simp [this]
theorem De(s:Bool)(m u:Nat):signed s m u=signed s m 0 * 2 ^ u:=by
  unfold signed
  simp only [Nat.shiftLeft_eq,Nat.pow_zero,Nat.mul_one]
  cases s <;> simp [Int.neg_mul]
theorem Jf(s:Bool)(m u:Nat):signed (!s) m u= - signed s m u:=by
  unfold signed;cases s <;> simp
theorem K2{n:Int}(h:n.natAbs < 9007199254740992):Std (FloatKind.f64.nearest n) n:=by
  have e:FloatKind.f64.nearest n=Ieee.double.nearest (n < 0) n.natAbs 0:=rfl
  rw [e]
  by_cases h0:n=0
  · subst h0
    exact ⟨false,0,1074,by decide,Nat.le_refl _,by rw [Int.zero_mul];rfl⟩
  obtain ⟨m,hm⟩:∃ m,m=n.natAbs:=⟨_,rfl⟩
  have hm0:m ≠ 0:=by omega
  rw [← hm] at h ⊢
  obtain ⟨lg,hlg⟩:∃ lg,lg=m.log2:=⟨_,rfl⟩
  have l1:2 ^ lg ≤ m:=by rw [hlg];exact Nat.log2_self_le hm0
  have l2:m < 2 ^ (lg+1):=by rw [hlg];exact Nat.lt_log2_self
  have l3:lg ≤ 52:=by
    rw [hlg]
    have:m.log2 < 53:=(Nat.log2_lt hm0).2 (by simpa using h)
    omega
  obtain ⟨K,hK⟩:∃ K,K=m * 2 ^ (52 - lg):=⟨_,rfl⟩
  have k1:4503599627370496 ≤ K:=by
    have:2 ^ lg * 2 ^ (52 - lg) ≤ m * 2 ^ (52 - lg):=Nat.mul_le_mul_right _ l1
    rw [← Nat.pow_add,show lg+(52 - lg)=52 by omega] at this
    rw [hK];exact this
  have k2:K < 9007199254740992:=by
    have:m * 2 ^ (52 - lg) < 2 ^ (lg+1) * 2 ^ (52 - lg):=Nat.mul_lt_mul_of_pos_right l2 (Nat.pow_pos (by decide))
    rw [← Nat.pow_add,show lg+1+(52 - lg)=53 by omega] at this
    rw [hK];exact this
  have hn:Ieee.double.nearest (n < 0) m 0=Ieee.double.word (n < 0) ((lg+1022) * 4503599627370496+K):=by
    unfold Format.nearest
    rw [if_neg hm0]
    simp only [Ti,lst,Ej,Ek,← hlg]
    have e1:max ((0:Int)+(lg:Int) - 52) (-1074)=(lg:Int) - 52:=by omega
    have e1':max ((0:Int)+(lg:Int) - ((52:Nat):Int)) (-1074)=(lg:Int) - 52:=by omega
    rw [e1']
    rw [show ((0:Int) - ((lg:Int) - 52)).toNat=52 - lg by omega,show ((lg:Int) - 52 - 0).toNat=0 by omega,Tj,show ((lg:Int) - 52 - -1074).toNat=lg+1022 by omega,Nat.shiftLeft_eq,← hK,Nat.min_eq_left (by omega)]
  rw [hn]
  obtain ⟨w1,w2⟩:=Fx (decide (n < 0)) (R:=(lg+1022) * 4503599627370496+K) (by omega)
  refine ⟨n < 0,K,52 - lg,?_,by omega,?_⟩
  · unfold Format.read
    simp only [sgw,Ej,Ek,lst,w1,w2]
    rw [if_neg (by omega),if_pos (by omega)]
    have e3:4503599627370496+((lg+1022) * 4503599627370496+K) % 4503599627370496=K:=by omega
    have e4:((lg+1022) * 4503599627370496+K) / 4503599627370496 - 1=lg+1022:=by omega
    rw [e3,e4]
    congr 1
    omega
  · unfold signed
    simp only [Nat.shiftLeft_eq,Nat.pow_zero,Nat.mul_one]
    rw [hK]
    by_cases hneg:n < 0
    · simp [hneg]
      rw [show n= -(m:Int) by omega]
      simp [Int.neg_mul]
    · simp [hneg]
      rw [show n=(m:Int) by omega]
/-- the sign of a number that was written, against zero. -/
theorem Kh(s:Bool)(M q:Nat)(hq:q ≤ 1074):Ieee.double.order (Ieee.double.write (.number s M (-(q:Int)))) 0=some (if M=0 then .eq else if s=true then .lt else .gt):=by
  have z0:Ieee.double.read 0= .number false 0 (-1074):=by decide
  unfold Format.order
  rw [z0]
  show (Ieee.double.read (Ieee.double.nearest s M (-(q:Int)))).order (.number false 0 (-1074))=_
  by_cases hM:M=0
  · subst hM
    rw [if_pos rfl]
    have e:Ieee.double.nearest s 0 (-(q:Int))=Ieee.double.word s 0:=by unfold Format.nearest;rw [if_pos rfl]
    rw [e]
    cases s <;> decide
  rw [if_neg hM]
  obtain ⟨R,hR,r0,r1⟩:∃ R,Ieee.double.nearest s M (-(q:Int))=Ieee.double.word s R∧0 < R∧R ≤ 9218868437227405312:=by
    unfold Format.nearest
    rw [if_neg hM]
    simp only [Ti,lst,Ej,Ek]
    refine ⟨_,rfl,?_,Nat.min_le_right _ _⟩
    obtain ⟨last,hl⟩:∃ last:Int,last=max (-(q:Int)+(M.log2:Int) - ((52:Nat):Int)) (-1074):=⟨_,rfl⟩
    rw [← hl]
    by_cases hlt:last= -1074
    · rw [hlt,show (-1074 - -(q:Int)).toNat=0 by omega,Tj,Nat.shiftLeft_eq]
      have:0 < M * 2 ^ (-(q:Int) - -1074).toNat:=Nat.mul_pos (Nat.pos_of_ne_zero hM) (Nat.pow_pos (by decide))
      omega
    · have:0 < (last - -1074).toNat:=by omega
      have:4503599627370496 ≤ (last - -1074).toNat * 4503599627370496:=by omega
      omega
  rw [hR]
  obtain ⟨w1,w2⟩:=Fx s (R:=R) (by omega)
  have cmp:∀ (m':Nat) (i:Int),0 < m'→(Datum.number s m' i).order (.number false 0 (-1074))=some (if s=true then .lt else .gt):=by
    intro m' i hm'
    unfold Datum.order
    simp only [Option.some.injEq]
    have hz:signed false 0 (-1074 - min i (-1074)).toNat=0:=by simp [signed]
    rw [hz]
    have hp:0 < m' <<< (i - min i (-1074)).toNat:=by rw [Nat.shiftLeft_eq];exact Nat.mul_pos hm' (Nat.pow_pos (by decide))
    cases s with
    | true=>
      have:signed true m' (i - min i (-1074)).toNat < 0:=by unfold signed;simp only [if_true];omega
      simp [compare,compareOfLessAndEq,this]
    | false=>
      have h1:0 < signed false m' (i - min i (-1074)).toNat:=by unfold signed;simp only [Bool.false_eq_true,if_false];omega
      have h2:¬ signed false m' (i - min i (-1074)).toNat < 0:=by omega
      have h3:¬ signed false m' (i - min i (-1074)).toNat=0:=by omega
      simp [compare,compareOfLessAndEq,h2,h3]
  unfold Format.read
  simp only [sgw,Ej,Ek,lst,w1,w2]
  split
  · exact cmp _ _ r0
  · split
    · exact cmp _ _ (by omega)
    · rw [if_pos (by omega)]
      cases s <;> rfl
/-- a difference of two that stand for whole numbers: there is one, and its sign is theirs. -/
theorem Hh{x y:Nat}{a b:Int}(hx:Std x a)(hy:Std y b):∃ z,Ieee.double.sub x y=some z∧Ieee.double.order z 0=some (if a=b then .eq else if a < b then .lt else .gt):=by
  obtain ⟨s,m,p,e1,h1,v1⟩:=hx
  obtain ⟨t,k,q,e2,h2,v2⟩:=hy
  unfold Format.sub
  rw [e1,e2]
  simp only [Datum.opposite,Datum.sum,Option.map_some]
  obtain ⟨r,hr,hr1⟩:∃ r:Nat,min (-(p:Int)) (-(q:Int))= -(r:Int)∧r ≤ 1074∧p ≤ r∧q ≤ r:=⟨max p q,by omega,by omega,by omega,by omega⟩
  obtain ⟨r1,r2,r3⟩:=hr1
  rw [hr]
  have t1:signed s m (-(p:Int) - -(r:Int)).toNat=a * 2 ^ r:=by
    rw [De,v1,Int.mul_assoc]
    congr 1
    rw [show (-(p:Int) - -(r:Int)).toNat=r - p by omega]
    rw [← Int.pow_add,show p+(r - p)=r by omega]
  have t2:signed (!t) k (-(q:Int) - -(r:Int)).toNat= -(b * 2 ^ r):=by
    rw [Jf,De,v2,Int.mul_assoc]
    congr 2
    rw [show (-(q:Int) - -(r:Int)).toNat=r - q by omega]
    rw [← Int.pow_add,show q+(r - q)=r by omega]
  rw [t1,t2]
  have t3:a * 2 ^ r+ -(b * 2 ^ r)=(a - b) * 2 ^ r:=by rw [Int.sub_mul];omega
  rw [t3]
  refine ⟨_,rfl,?_⟩
  rw [Kh _ _ _ r1]
  have hp:(0:Int) < 2 ^ r:=Int.pow_pos (by decide)
  by_cases hab:a=b
  · subst hab;simp
  · have hne:(a - b) * 2 ^ r ≠ 0:=Int.mul_ne_zero (by omega) (by omega)
    rw [if_neg (by omega),if_neg hab]
    by_cases hlt:a < b
    · have:(a - b) * 2 ^ r < 0:=Int.mul_neg_of_neg_of_pos (by omega) hp
      simp [hne,this,hlt]
    · have:¬ (a - b) * 2 ^ r < 0:=by have:=Int.mul_pos (show 0 < a - b by omega) hp;omega
      simp [hne,this,hlt]
section
variable {P:Program} {ops:Array Oper} {o:Oper} {w:World} {a:Act} {n:Nat} {env:List (Nat×Value)}
open Go.RowKit
theorem Tk(E:Env n a env){ts:Array TypeId}{x y:Operand}{k:FloatKind}{p q:Nat}(ho:o.op= .call { callee:=.builtin .complex,args:=#[x,y],argTypes:=ts })(hx:opv env x=some (.float k p))(hy:opv env y=some (.float k q)):(execOp a.eval o).run P w= .ok (.value (.complex k p q)) w:=by
  simp only [execOp,ho]
  have h:∀ ts t,Builtin.complex_ ts t #[.float k p,.float k q]=pure (.complex k p q):=fun _ _=>if_pos rfl
  simp [Sem.run_bind,resolve,invoke,builtin,E.eval hx,E.eval hy,h]
theorem Ki(E:Env n a env){ts:Array TypeId}{x:Operand}{k:FloatKind}{p q:Nat}(ho:o.op= .call { callee:=.builtin .real,args:=#[x],argTypes:=ts })(hx:opv env x=some (.complex k p q)):(execOp a.eval o).run P w= .ok (.value (.float k p)) w:=by
  simp only [execOp,ho]
  have h:∀ ts t,Builtin.real_ ts t #[.complex k p q]=pure (.float k p):=fun _ _=>rfl
  simp [Sem.run_bind,resolve,invoke,builtin,E.eval hx,h]
theorem Tl(E:Env n a env){ts:Array TypeId}{x:Operand}{k:FloatKind}{p q:Nat}(ho:o.op= .call { callee:=.builtin .imag,args:=#[x],argTypes:=ts })(hx:opv env x=some (.complex k p q)):(execOp a.eval o).run P w= .ok (.value (.float k q)) w:=by
  simp only [execOp,ho]
  have h:∀ ts t,Builtin.imag_ ts t #[.complex k p q]=pure (.float k q):=fun _ _=>rfl
  simp [Sem.run_bind,resolve,invoke,builtin,E.eval hx,h]
theorem Tm(E:Env n a env){t t':TypeId}{x y:Operand}{p q p' q' r i:Nat}(ho:o.op= .binOp .sub t x y t')(hx:opv env x=some (.complex .f64 p q))(hy:opv env y=some (.complex .f64 p' q'))(hr:Ieee.double.sub p p'=some r)(hi:Ieee.double.sub q q'=some i):(execOp a.eval o).run P w= .ok (.value (.complex .f64 r i)) w:=by
  simp only [execOp,ho,E.eval hx,E.eval hy]
  have h1:FloatKind.f64.format=Ieee.double:=rfl
  simp [eqGuard,binOp,Op.complexOp,Op.Complex.arith,Op.floatArith,Sem.run_bind,h1,hr,hi]
theorem Jg(E:Env n a env){t t':TypeId}{x y:Operand}{p q:Nat}{c:Option Ordering}{v:Bool}(ho:o.op= .binOp .gtr t x y t')(hx:opv env x=some (.float .f64 p))(hy:opv env y=some (.float .f64 q))(hc:Ieee.double.order p q=c)(hv:(c == some .gt)=v):(execOp a.eval o).run P w= .ok (.value (.bool v)) w:=by
  simp only [execOp,ho,E.eval hx,E.eval hy]
  have h1:FloatKind.f64.format=Ieee.double:=rfl
  subst hc;subst hv
  simp [eqGuard,binOp,Op.floatCmp,Sem.run_bind,h1]
theorem Nj(E:Env n a env){t t':TypeId}{x y:Operand}{p q:Nat}{c:Option Ordering}{v:Bool}(ho:o.op= .binOp .eql t x y t')(hx:opv env x=some (.float .f64 p))(hy:opv env y=some (.float .f64 q))(hc:Ieee.double.order p q=c)(hv:(c == some .eq)=v):(execOp a.eval o).run P w= .ok (.value (.bool v)) w:=by
  simp only [execOp,ho,E.eval hx,E.eval hy]
  have h1:FloatKind.f64.format=Ieee.double:=rfl
  subst hc;subst hv
  simp [eqGuard,binOp,Op.floatCmp,Sem.run_bind,h1]
end
/-- does one pair stand behind another one? (numbers from 0 to 2^48) -/
def Bo(a b c d:Int):Bool:=decide (c < a) || (decide (a=c) && decide (d < b))
def Jh(a b c d:Int):Prop:=(0 ≤ a∧a ≤ 281474976710656)∧(0 ≤ b∧b ≤ 281474976710656)∧(0 ≤ c∧c ≤ 281474976710656)∧(0 ≤ d∧d ≤ 281474976710656)
instance (a b c d:Int):Decidable (Jh a b c d):=by unfold Jh;infer_instance
end Go.Cb
