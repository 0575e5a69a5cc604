/- Plain laws of elder seats, at this one. -/
import Derived.Test.YtpbgbliikifjjaaGreatDoorQRsl
import Derived.Test.YtpbgbliikifjjaaGreatDoorAsl2
set_option linter.unusedVariables false
set_option linter.unusedSimpArgs false
namespace Go.Cb
open Go.Proofs Go.RowKit

theorem Qr{l:List Nd}(hs:l.Pairwise (key · < key ·))(p:List UInt8){f:Nd→Nd}(hf:∀ z,key (f z)=key z):(upd l p f).Pairwise (key · < key ·):=by
  unfold upd
  rw [List.pairwise_map]
  exact hs.imp fun {a b} h=>by rw [Nt hf,Nt hf];exact h
theorem Wf(s:ByteArray):sEq s (ByteArray.mk #[47])=decide (bl s= [47]):=vP _ _
end Go.Cb
