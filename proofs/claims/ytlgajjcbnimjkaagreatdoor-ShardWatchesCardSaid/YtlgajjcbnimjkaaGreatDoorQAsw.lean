/- Plain laws of elder seats, at this one. -/
import Derived.Test.YtlgajjcbnimjkaaGreatDoorQRsw
set_option linter.unusedVariables false
set_option linter.unusedSimpArgs false
namespace Go.Cb
open Go.Proofs Go.RowKit

theorem Qp{l:List Nd}(hs:l.Pairwise (key · < key ·))(p:List UInt8){f:Nd→Nd}(hf:∀ z,key (f z)=key z):(upd l p f).Pairwise (key · < key ·):=by
  unfold upd
  rw [List.pairwise_map]
  exact hs.imp fun {a b} h=>by rw [Nz hf,Nz hf];exact h
theorem Wh(s:ByteArray):sEq s (ByteArray.mk #[47])=decide (bl s= [47]):=vV _ _
end Go.Cb
