/- Ranges, plainly: what the document says of what may be ranges. -/
import Derived.Test.YtppeaaolgckfcaaGreatDoorEAsm
import Derived.Test.YtppeaaolgckfcaaGreatDoorKsm4
set_option linter.unusedVariables false
set_option linter.unusedSimpArgs false
namespace Go.Cb
open Go.Proofs Go.RowKit

theorem PD{s:BY}(h:dK (bl s)=true):mH s=some true:=by
 rw [Uv s (by have:=Bb h;omega),h]
theorem LM{l:List Rg}(R:dW l):sD l=some true:=by
 have hl:=R.len;unfold sD;rw [iN (by simp;omega)];obtain ⟨r,h,rfl⟩:=zF (λk i (_:Unit)=>dX l k i) (n:=l.length) (k:=((l.length:Int) - 0:Int).toNat+1) (λ_ _=>True) (λr=>r=true) () (qR _) trivial (by
  intro k i _ hi _ ih;unfold dX gK;obtain ⟨a1,a2,a3,a4,a5⟩:=Jq (R.all _ (List.getElem_mem hi));rw [iP (by simpa using hi),bY hi];simp only [bS];rw [PD a1];simp only [bS];rw [iN (by simp),iN (by simp;omega),iN (by simp;omega),iN (by simp;omega),iN (by simp;omega)];by_cases h0:0 < i
  ·have:=List.pairwise_iff_getElem.1 R.sort (i - 1) i (by omega) hi (by omega);rw [iP (by simpa using h0),Zp h0 (by omega),bY (show i - 1 < l.length by omega)];simp only [bS];rw [Eo,decide_eq_true (show bl (l[i - 1]'(by omega)).Prefix < bl (l[i]).Prefix from this),iN (by simp),hP (by omega)];exact ih () trivial
  ·rw [iN (by simpa using h0),iN (by simp),hP (by omega)];exact ih () trivial) (by
  intro k _ _;unfold dX;rw [iN (by simp)];exact ⟨true,rfl,rfl⟩)
 exact h
end Go.Cb
