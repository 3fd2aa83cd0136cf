/-
  For every slice of bytes, of at most 1200 bytes, Decode returns the reference's result: the pure statement of the law COBSDecode.
  Conditions: none beyond the statement's own.
-/
import Derived.Test.YtnlpckkaddpieaaPr4
import Derived.Test.YtnlpckkaddpieaaDec
namespace Go.Proofs.Ytnlpckkaddpieaa.Pure
open Go.RowKit Go.Proofs.Ytnlpckkaddpieaa.Pr Go.Proofs.Ytnlpckkaddpieaa.Plain Go.Proofs.YtnlpckkaddpieaaW.PrintWords Go.Proofs.YtnlpckkaddpieaaW.PrintLast Go.Proofs.YtnlpckkaddpieaaW.PrintMore
theorem COBSDecode : tricklelaw03_COBSDecode.Pure := by
  intro l0 hm hl hw
  refine ⟨6 * l0.length + 10, ?_⟩
  unfold tricklelaw03_COBSDecode.f tricklelaw03_wakes.f
  rw [Option.bind_some, if_pos rfl]
  by_cases h : (l0.length : Int) > 1200
  · rw [if_pos h]
  · rw [if_neg h, dec_tells l0 _ (by omega) (isB_of_wf hw) (by omega), ref_dec_tells l0 _ (by omega) (isB_of_wf hw) (by omega)]
    simp -implicitDefEqProofs only [Option.bind_some, same_refl, if_true]
end Go.Proofs.Ytnlpckkaddpieaa.Pure
