/-
  The plain law of stored values.
-/
import Derived.Test.YtgefhejpaojhbaaPlainPut
import Derived.Test.YtgefhejpaojhbaaPutLaw
namespace Go.Proofs.Ytgefhejpaojhbaa.Plain
open Go.RowKit Go.Proofs.Ytgefhejpaojhbaa.Pr Go.Proofs.YtgefhejpaojhbaaW.PrintWords Go.Proofs.YtgefhejpaojhbaaW.PrintLast Go.Proofs.YtgefhejpaojhbaaW.PrintMore
def clampT (hi : Int) : Int := if hi ≤ 0 then 0 else if 1099511627775 < hi then 1099511627775 else hi
theorem clampT_range (hi : Int) : 0 ≤ clampT hi ∧ clampT hi ≤ 1099511627775 := by unfold clampT; (repeat' split) <;> omega
theorem put_form (v lo hi ep : Int) : expiry_Put.f v lo hi ep = some (v % 256, v % 65536 / 256 % 256, ep % 256, clampT hi % 256, clampT hi / 256 % 256, clampT hi / 65536 % 256, clampT hi / 16777216 % 256, clampT hi / 4294967296 % 256) := by
  unfold expiry_Put.f clampT
  rw [wu16]
  by_cases a : 0 < hi
  · rw [if_pos a, if_neg (show ¬ hi ≤ 0 by omega)]
    by_cases b : hi ≤ 1099511627775
    · rw [if_pos b, if_neg (show ¬ 1099511627775 < hi by omega)]
      simp only [Option.some.injEq, Prod.mk.injEq]
      refine ⟨trivial, trivial, trivial, trivial, trivial, trivial, trivial, ?_⟩
      omega
    · rw [if_neg b, if_pos (show 1099511627775 < hi by omega)]
      rfl
  · rw [if_neg a, if_pos (show hi ≤ 0 by omega)]
    rfl
theorem get_put (v hi ep : Int) (h1 : -32768 ≤ v) (h2 : v ≤ 32767) : expiry_Get.f (v % 256) (v % 65536 / 256 % 256) (ep % 256) (clampT hi % 256) (clampT hi / 256 % 256) (clampT hi / 65536 % 256) (clampT hi / 16777216 % 256) (clampT hi / 4294967296 % 256) = some (v, clampT hi, clampT hi, ep % 256) := by
  have hT := clampT_range hi
  rw [get_tells _ _ _ _ _ _ _ _ (by omega) (by omega) (by omega) (by omega) (by omega) (by omega) (by omega) (by omega), wi16]
  unfold refT
  congr 1
  rw [Prod.mk.injEq, Prod.mk.injEq, Prod.mk.injEq]
  generalize clampT hi = T at *
  refine ⟨?_, ?_, ?_, rfl⟩ <;> omega
theorem usb_stored (lo hi ep nlo nhi nep t n : Int) (h : stp lo hi ep = true) : usb hi hi (ep % 256) nlo nhi nep t n = usb lo hi ep nlo nhi nep t n := by
  have a := stp_of h
  unfold usb
  have e1 : stp hi hi (ep % 256) = true := by unfold stp; exact decide_eq_true (by omega)
  have e2 : mtc (ep % 256) nep = mtc ep nep := by
    unfold mtc
    rw [tm (ep % 256) (by omega), tm ep (by omega), show ep % 256 % 256 = ep % 256 by omega]
  rw [h, e1, e2]
theorem law_put (v lo hi ep nlo nhi nep b0 b1 b2 b3 b4 b5 b6 b7 : Int) (hv1 : -32768 ≤ v) (hv2 : v ≤ 32767) (h0 : 0 ≤ b0 ∧ b0 ≤ 255) (h1 : 0 ≤ b1 ∧ b1 ≤ 255) (h2 : 0 ≤ b2 ∧ b2 ≤ 255) (h3 : 0 ≤ b3 ∧ b3 ≤ 255) (h4 : 0 ≤ b4 ∧ b4 ≤ 255) (h5 : 0 ≤ b5 ∧ b5 ≤ 255) (h6 : 0 ≤ b6 ∧ b6 ≤ 255) (h7 : 0 ≤ b7 ∧ b7 ≤ 255) : tricklelaw41_ExpiryPut.f 1 v lo hi ep nlo nhi nep b0 b1 b2 b3 b4 b5 b6 b7 = some true := by
  unfold tricklelaw41_ExpiryPut.f tricklelaw41_examples.f tricklelaw41_own.f
  simp -implicitDefEqProofs only [Option.bind_some, ← put_same v lo hi ep hv1 hv2, ← get_same b0 b1 b2 b3 b4 b5 b6 b7 h0 h1 h2 h3 h4 h5 h6 h7, get_tells b0 b1 b2 b3 b4 b5 b6 b7 h0 h1 h2 h3 h4 h5 h6 h7, put_get b0 b1 b2 b3 b4 b5 b6 b7 h0 h1 h2 h3 h4 h5 h6 h7]
  rw [put_form v lo hi ep]
  simp -implicitDefEqProofs only [Option.bind_some, get_put v hi ep hv1 hv2, if_true]
  rw [if_neg (by simp), if_neg (by simp), if_neg (by simp)]
  simp -implicitDefEqProofs only [bne_self_eq_false, tricklelaw41_ExpiryPut.j0, valid41_tells, Option.bind_some]
  rw [if_neg (by simp)]
  cases hs : stp lo hi ep
  · rw [if_neg (by simp)]
  · have a := stp_of hs
    have e : clampT hi = hi := by unfold clampT; (repeat' split) <;> omega
    rw [if_pos rfl]
    unfold tricklelaw41_now.f tricklelaw41_own.f
    simp -implicitDefEqProofs only [Option.bind_some, fresh_tells, usable_tells, e, usb_stored lo hi ep nlo nhi nep _ _ hs, beq_self_eq_true, if_true]
end Go.Proofs.Ytgefhejpaojhbaa.Plain
