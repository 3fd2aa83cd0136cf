/-
  The plain laws of values with times: what the printed functions of layer 41 tell.
-/
import Derived.Test.YtgefhejpaojhbaaPlain
import Derived.Test.YtgefhejpaojhbaaPr7
import Derived.Test.YtgefhejpaojhbaaPr8
namespace Go.Proofs.Ytgefhejpaojhbaa.Plain
open Go.RowKit Go.Proofs.Ytgefhejpaojhbaa.Pr Go.Proofs.YtgefhejpaojhbaaW.PrintWords Go.Proofs.YtgefhejpaojhbaaW.PrintLast Go.Proofs.YtgefhejpaojhbaaW.PrintMore
/-! ### The deadline -/
theorem deadline_tells (v lo hi ep n : Int) : expiry_Deadline.f v lo hi ep n = if stp lo hi ep = true ∧ lmt n = true then some (if hi + n > 1099511627776 then 1099511627776 else hi + n, true) else some (0, false) := by
  unfold expiry_Deadline.f
  rw [stamp_tells, limit_tells]
  simp -implicitDefEqProofs only [Option.bind_some]
  cases h1 : stp lo hi ep
  · simp
  cases h2 : lmt n
  · simp
  have a1 := stp_of h1
  have a2 := lmt_of h2
  rw [w64 (hi + n) (by omega) (by omega)]
  have e : mn (hi + n) 1099511627776 = if hi + n > 1099511627776 then 1099511627776 else hi + n := by unfold mn; (repeat' split) <;> omega
  rw [e]
  simp
theorem deadline41_tells (v lo hi ep n : Int) : trickleref41_Deadline.f v lo hi ep n = if stp lo hi ep = true ∧ lmt n = true then some (if hi + n > 1099511627776 then 1099511627776 else hi + n, true) else some (0, false) := by
  unfold trickleref41_Deadline.f
  rw [valid41_tells, limit41_tells]
  simp -implicitDefEqProofs only [Option.bind_some]
  cases h1 : stp lo hi ep
  · simp
  cases h2 : lmt n
  · simp
  have a1 := stp_of h1
  have a2 := lmt_of h2
  rw [w64 (hi + n) (by omega) (by omega)]
  simp
theorem j1_tells (k : Nat) (d v lo hi ep nlo nhi nep t n : Int) (h : nhi + t ≤ 2199023255552) (h0 : 0 ≤ nhi + t) (hu : usb lo hi ep nlo nhi nep t n = decide (nhi + t ≤ d)) : tricklelaw41_ExpiryDeadline.j1 (k + 1) d false v lo hi ep nlo nhi nep t n = some true := by
  simp only [tricklelaw41_ExpiryDeadline.j1]
  unfold tricklelaw41_own.f tricklelaw41_now.f
  simp -implicitDefEqProofs only [Option.bind_some, usable_tells]
  rw [w64 (nhi + t) (by omega) (by omega), hu]
  simp
theorem j1_true (k : Nat) (d v lo hi ep nlo nhi nep t n : Int) : tricklelaw41_ExpiryDeadline.j1 (k + 1) d true v lo hi ep nlo nhi nep t n = some true := by
  simp only [tricklelaw41_ExpiryDeadline.j1]
  rw [if_pos trivial]
theorem law_deadline (v lo hi ep nlo nhi nep t n : Int) : tricklelaw41_ExpiryDeadline.f 2 v lo hi ep nlo nhi nep t n = some true := by
  unfold tricklelaw41_ExpiryDeadline.f tricklelaw41_examples.f tricklelaw41_own.f
  simp -implicitDefEqProofs only [Option.bind_some, deadline_tells, deadline41_tells]
  by_cases hc : stp lo hi ep = true ∧ lmt n = true
  · rw [if_pos hc]
    obtain ⟨h1, h2⟩ := hc
    have a1 := stp_of h1
    have a2 := lmt_of h2
    obtain ⟨d, hd⟩ : ∃ d, (if hi + n > 1099511627776 then 1099511627776 else hi + n) = d := ⟨_, rfl⟩
    rw [hd]
    simp -implicitDefEqProofs only [Option.bind_some, if_true, bne_self_eq_false, tricklelaw41_ExpiryDeadline.j0]
    rw [if_neg (by simp)]
    by_cases hm : d = 1099511627776
    · rw [if_pos hm, j1_true]
    rw [if_neg hm]
    have hdn : d = hi + n := by
      rw [← hd] at hm ⊢
      split at hm
      · exact absurd rfl hm
      · rename_i h
        rw [if_neg h]
    by_cases ht : t < 0
    · rw [if_pos ht, j1_true]
    rw [if_neg ht]
    by_cases ht2 : t > 1099511627776
    · rw [if_pos ht2, j1_true]
    rw [if_neg ht2, valid41_tells]
    simp -implicitDefEqProofs only [Option.bind_some]
    cases hs : stp nlo nhi nep
    · rw [if_neg (by simp), j1_true]
    rw [if_pos rfl]
    by_cases hmt : Int.tmod nep 256 = Int.tmod ep 256
    · rw [if_pos hmt]
      have a3 := stp_of hs
      by_cases hlt : nhi < hi
      · rw [decide_eq_true hlt, j1_true]
      · rw [decide_eq_false hlt]
        refine j1_tells 0 _ _ _ _ _ _ _ _ _ _ (by omega) (by omega) ?_
        have e1 : mtc ep nep = true := by unfold mtc; rw [hmt]; simp
        have e2 : lmt t = true := by unfold lmt; exact decide_eq_true (by omega)
        have e3 : decide (nhi ≥ hi) = true := decide_eq_true (by omega)
        unfold usb
        rw [h1, h2, hs, e1, e2, e3]
        simp only [Bool.true_and]
        rw [decide_eq_decide, hdn]
        omega
    · rw [if_neg hmt, j1_true]
  · rw [if_neg hc]
    simp -implicitDefEqProofs only [Option.bind_some, if_true, bne_self_eq_false, tricklelaw41_ExpiryDeadline.j0]
    rw [if_neg (by simp), if_neg (by simp), j1_true]
end Go.Proofs.Ytgefhejpaojhbaa.Plain
