/- Loops, said once; lists. -/
import Derived.Test.YtppeaaolgckfcaaGreatDoorPsm1
set_option linter.unusedVariables false
set_option linter.unusedSimpArgs false
namespace Go.Cb
open Go.Proofs Go.RowKit

/-- a loop over places, with a state: what holds at each place, and of what it comes to. -/
theorem Xf{R σ:Type}(F:Nat->Int->σ->Option R)(n:Nat)(P:Nat->σ->Prop)(Q:R->Prop)
  (step:∀ k i s,i < n->P i s->(∀ s',P (i+1) s'->∃ r,F k ((i+1:Nat):Int) s'=some r/\Q r)->∃ r,F (k+1) (i:Int) s=some r/\Q r)
  (done:∀ k s,P n s->∃ r,F (k+1) (n:Int) s=some r/\Q r):∀ (k i:Nat) (s:σ),i <= n->n+1 <= i+k->P i s->∃ r,F k (i:Int) s=some r/\Q r
 | 0,i,s,_,h,_=>by omega
 | k+1,i,s,h0,h,p=>by
  by_cases hi:i < n
  ·exact step k i s hi p λs' h2=>Xf F n P Q step done k (i+1) s' (by omega) (by omega) h2
  obtain rfl:i=n:=by omega
  exact done k s p
/-- the same, from the beginning. -/
theorem zF{R σ:Type}(F:Nat->Int->σ->Option R){n k:Nat}(P:Nat->σ->Prop)(Q:R->Prop)(s:σ)(hk:n+1 <= k)(p0:P 0 s)
  (step:∀ k i s,i < n->P i s->(∀ s',P (i+1) s'->∃ r,F k ((i+1:Nat):Int) s'=some r/\Q r)->∃ r,F (k+1) (i:Int) s=some r/\Q r)
  (done:∀ k s,P n s->∃ r,F (k+1) (n:Int) s=some r/\Q r):∃ r,F k 0 s=some r/\Q r:=
 Xf F n P Q step done k 0 s (by omega) (by omega) p0
theorem qR(n:Nat):n+1 <= ((n:Int) - 0:Int).toNat+1:=by omega
end Go.Cb
