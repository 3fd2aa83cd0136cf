/-
  The plain laws of values with times: what the printed functions of layer 41 tell.
-/
import Derived.Test.YtgefhejpaojhbaaPlain
import Derived.Test.YtgefhejpaojhbaaPr6
namespace Go.Proofs.Ytgefhejpaojhbaa.Plain
open Go.RowKit Go.Proofs.Ytgefhejpaojhbaa.Pr Go.Proofs.YtgefhejpaojhbaaW.PrintWords Go.Proofs.YtgefhejpaojhbaaW.PrintLast Go.Proofs.YtgefhejpaojhbaaW.PrintMore
theorem law_fresh (a0 a1 a2 a3 b0 b1 b2 n : Int) : tricklelaw41_ExpiryFresh.f a0 a1 a2 a3 b0 b1 b2 n = some true := by
  unfold tricklelaw41_ExpiryFresh.f tricklelaw41_examples.f tricklelaw41_own.f tricklelaw41_now.f
  simp -implicitDefEqProofs only [Option.bind_some, fresh_tells, fresh41_tells, may_tells, may41_tells, beq_self_eq_true, if_true]
end Go.Proofs.Ytgefhejpaojhbaa.Plain
