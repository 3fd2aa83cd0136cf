/-
  For every slice of bytes, of at most 1200 bytes, Encode returns the reference's encoding: the pure statement of the law COBSEncode.
  Conditions: none beyond the statement's own.
-/
import Derived.Test.YtnlpckkaddpieaaPr3
import Derived.Test.YtnlpckkaddpieaaDec
namespace Go.Proofs.Ytnlpckkaddpieaa.Pure
open Go.RowKit Go.Proofs.Ytnlpckkaddpieaa.Pr Go.Proofs.Ytnlpckkaddpieaa.Plain Go.Proofs.YtnlpckkaddpieaaW.PrintWords Go.Proofs.YtnlpckkaddpieaaW.PrintLast Go.Proofs.YtnlpckkaddpieaaW.PrintMore
theorem COBSEncode : tricklelaw03_COBSEncode.Pure := by
  intro l0 hm hl hw
  refine ⟨4 * l0.length + 10, ?_⟩
  unfold tricklelaw03_COBSEncode.f tricklelaw03_wakes.f
  rw [Option.bind_some, if_pos rfl]
  by_cases h : (l0.length : Int) > 1200
  · rw [if_pos h]
  · rw [if_neg h, enc_tells l0 _ (by omega) (isB_of_wf hw) (by omega), ref_enc_tells l0 _ (by omega) (by omega)]
    simp -implicitDefEqProofs only [Option.bind_some, same_refl]
end Go.Proofs.Ytnlpckkaddpieaa.Pure
