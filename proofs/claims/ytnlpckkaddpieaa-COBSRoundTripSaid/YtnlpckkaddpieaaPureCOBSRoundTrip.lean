/-
  For every slice of bytes, of at most 1200 bytes, Decode of its encoding gives it back: the pure statement of the law COBSRoundTrip.
  Conditions: none beyond the statement's own.
-/
import Derived.Test.YtnlpckkaddpieaaPr4
import Derived.Test.YtnlpckkaddpieaaDec
namespace Go.Proofs.Ytnlpckkaddpieaa.Pure
open Go.RowKit Go.Proofs.Ytnlpckkaddpieaa.Pr Go.Proofs.Ytnlpckkaddpieaa.Plain Go.Proofs.YtnlpckkaddpieaaW.PrintWords Go.Proofs.YtnlpckkaddpieaaW.PrintLast Go.Proofs.YtnlpckkaddpieaaW.PrintMore
theorem COBSRoundTrip : tricklelaw03_COBSRoundTrip.Pure := by
  intro l0 hm hl hw
  have h1 := E_len l0
  have h2 := size_le l0.length
  refine ⟨8 * l0.length + 50, ?_⟩
  unfold tricklelaw03_COBSRoundTrip.f tricklelaw03_wakes.f
  rw [Option.bind_some, if_pos rfl]
  by_cases h : (l0.length : Int) > 1200
  · rw [if_pos h]
  · rw [if_neg h, enc_tells l0 _ (by omega) (isB_of_wf hw) (by omega)]
    simp -implicitDefEqProofs only [Option.bind_some]
    rw [dec_tells (E l0) _ (by omega) (isB_E (isB_of_wf hw)) (by omega), Dec_E]
    simp -implicitDefEqProofs only [Option.bind_some, same_refl, if_true]
end Go.Proofs.Ytnlpckkaddpieaa.Pure
