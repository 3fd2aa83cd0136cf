/-
  The plain laws of values with times: what the printed functions of layer 41 tell.
-/
import Derived.Test.YtgefhejpaojhbaaPr5
namespace Go.Proofs.Ytgefhejpaojhbaa.Plain
open Go.RowKit Go.Proofs.Ytgefhejpaojhbaa.Pr Go.Proofs.YtgefhejpaojhbaaW.PrintWords Go.Proofs.YtgefhejpaojhbaaW.PrintLast Go.Proofs.YtgefhejpaojhbaaW.PrintMore
theorem w64 (n : Int) (h1 : -9223372036854775808 ≤ n) (h2 : n ≤ 9223372036854775807) : wrap64 n = n := by
  unfold wrap64
  omega
def vld (a b : Int) : Bool := decide (0 ≤ a ∧ a ≤ b ∧ b ≤ 1099511627776)
def stp (a b c : Int) : Bool := decide (0 ≤ a ∧ a ≤ b ∧ b < 1099511627776 ∧ 0 ≤ c)
def lmt (n : Int) : Bool := decide (0 ≤ n ∧ n ≤ 1099511627776)
theorem valid_tells (a b : Int) : interval_Valid.f a b = some (vld a b) := by
  unfold interval_Valid.f vld
  by_cases h1 : a ≥ 0
  · by_cases h2 : a ≤ b
    · rw [if_pos h1, if_pos h2]
      congr 1
      rw [decide_eq_decide]
      omega
    · rw [if_pos h1, if_neg h2, decide_eq_false (by omega)]
  · rw [if_neg h1, decide_eq_false (by omega)]
theorem valid5_tells (a b : Int) : trickleref05_Valid.f a b = some (vld a b) := by
  rw [← valid_tells]
  unfold interval_Valid.f trickleref05_Valid.f trickleref05_most.f
  simp -implicitDefEqProofs only [Option.bind_some]
theorem stamp_tells (a b c : Int) : expiry_stamp.f a b c = some (stp a b c) := by
  unfold expiry_stamp.f stp
  rw [valid_tells]
  simp -implicitDefEqProofs only [Option.bind_some, vld, decide_eq_true_eq]
  by_cases h1 : 0 ≤ a ∧ a ≤ b ∧ b ≤ 1099511627776
  · by_cases h2 : b < 1099511627776
    · rw [if_pos h1, if_pos h2]
      congr 1
      rw [decide_eq_decide]
      omega
    · rw [if_pos h1, if_neg h2, decide_eq_false (by omega)]
  · rw [if_neg h1, decide_eq_false (by omega)]
theorem stamp41_tells (a b c : Int) : trickleref41_valid.f a b c = some (stp a b c) := by
  rw [← stamp_tells]
  unfold trickleref41_valid.f expiry_stamp.f trickleref41_most.f
  rw [valid5_tells, valid_tells]
  simp -implicitDefEqProofs only [Option.bind_some]
theorem valid41_tells (v a b c : Int) : trickleref41_Valid.f v a b c = some (stp a b c) := by
  unfold trickleref41_Valid.f
  rw [stamp41_tells]
  rfl
theorem limit_tells (n : Int) : expiry_limit.f n = some (lmt n) := by
  unfold expiry_limit.f lmt
  by_cases h1 : n ≥ 0
  · rw [if_pos h1]
    congr 1
    rw [decide_eq_decide]
    omega
  · rw [if_neg h1, decide_eq_false (by omega)]
theorem limit41_tells (n : Int) : trickleref41_limit.f n = some (lmt n) := by
  rw [← limit_tells]
  unfold expiry_limit.f trickleref41_limit.f trickleref41_most.f
  simp -implicitDefEqProofs only [Option.bind_some]
def mtc (a b : Int) : Bool := Int.tmod a 256 == Int.tmod b 256
theorem match_tells (a b : Int) : expiry_match.f a b = some (mtc a b) := rfl
theorem match41_tells (a b : Int) : trickleref41_match.f a b = some (mtc a b) := rfl
/-- Usable, plainly. -/
def usb (lo hi ep nlo nhi nep ticks n : Int) : Bool := stp lo hi ep && stp nlo nhi nep && lmt ticks && lmt n && mtc ep nep && decide (nhi ≥ hi) && decide (nhi - hi + ticks ≤ n)
theorem stp_of {a b c : Int} (h : stp a b c = true) : 0 ≤ a ∧ a ≤ b ∧ b < 1099511627776 ∧ 0 ≤ c := by simpa [stp] using h
theorem lmt_of {n : Int} (h : lmt n = true) : 0 ≤ n ∧ n ≤ 1099511627776 := by simpa [lmt] using h
theorem tail_tells (hi nhi ticks n : Int) (h1 : 0 ≤ hi ∧ hi < 1099511627776) (h2 : 0 ≤ nhi ∧ nhi < 1099511627776) (h3 : 0 ≤ ticks ∧ ticks ≤ 1099511627776) :
    (if (wrap64 (nhi - hi)) ≥ 0 then (some (decide ((wrap64 ((wrap64 (nhi - hi)) + ticks)) ≤ n))) else (some false)) = some (decide (nhi ≥ hi) && decide (nhi - hi + ticks ≤ n)) := by
  rw [w64 (nhi - hi) (by omega) (by omega), w64 (nhi - hi + ticks) (by omega) (by omega)]
  by_cases h : nhi - hi ≥ 0
  · rw [if_pos h, decide_eq_true (show nhi ≥ hi by omega), Bool.true_and]
  · rw [if_neg h, decide_eq_false (show ¬(nhi ≥ hi) by omega), Bool.false_and]
theorem usable_tells (v lo hi ep nlo nhi nep ticks n : Int) : expiry_Usable.f v lo hi ep nlo nhi nep ticks n = some (usb lo hi ep nlo nhi nep ticks n) := by
  unfold expiry_Usable.f usb
  rw [stamp_tells, stamp_tells, limit_tells, limit_tells, match_tells]
  simp -implicitDefEqProofs only [Option.bind_some]
  cases h1 : stp lo hi ep
  · rfl
  cases h2 : stp nlo nhi nep
  · rfl
  cases h3 : lmt ticks
  · rfl
  cases h4 : lmt n
  · rfl
  cases h5 : mtc ep nep
  · rfl
  have a1 := stp_of h1
  have a2 := stp_of h2
  have a3 := lmt_of h3
  rw [if_pos rfl, if_pos rfl, if_pos rfl, if_pos rfl, if_pos rfl, tail_tells hi nhi ticks n (by omega) (by omega) a3]
  simp
theorem usable41_tells (v lo hi ep nlo nhi nep ticks n : Int) : trickleref41_Usable.f v lo hi ep nlo nhi nep ticks n = some (usb lo hi ep nlo nhi nep ticks n) := by
  unfold trickleref41_Usable.f usb
  rw [valid41_tells, stamp41_tells, limit41_tells, limit41_tells, match41_tells]
  simp -implicitDefEqProofs only [Option.bind_some]
  cases h1 : stp lo hi ep
  · rfl
  cases h2 : stp nlo nhi nep
  · rfl
  cases h4 : lmt n
  · cases lmt ticks <;> rfl
  cases h3 : lmt ticks
  · rfl
  cases h5 : mtc ep nep
  · rfl
  have a1 := stp_of h1
  have a2 := stp_of h2
  have a3 := lmt_of h3
  rw [if_pos rfl, if_pos rfl, if_pos rfl, if_pos rfl, if_pos rfl, tail_tells hi nhi ticks n (by omega) (by omega) a3]
  simp
theorem fresh_tells (v lo hi ep nlo nhi nep n : Int) : expiry_Fresh.f v lo hi ep nlo nhi nep n = some (usb lo hi ep nlo nhi nep 0 n) := by
  unfold expiry_Fresh.f
  rw [usable_tells]
  rfl
theorem fresh41_tells (v lo hi ep nlo nhi nep n : Int) : trickleref41_Fresh.f v lo hi ep nlo nhi nep n = some (usb lo hi ep nlo nhi nep 0 n) := by
  unfold trickleref41_Fresh.f
  rw [usable41_tells]
  rfl
def may (lo hi ep nlo nhi nep n : Int) : Bool := stp lo hi ep && stp nlo nhi nep && lmt n && (!mtc ep nep || decide (nlo - lo ≤ n))
theorem may_tail (lo nlo n : Int) (b : Bool) (h1 : 0 ≤ lo ∧ lo < 1099511627776) (h2 : 0 ≤ nlo ∧ nlo < 1099511627776) : (if b = true then (some (decide ((wrap64 (nlo - lo)) ≤ n))) else (some true)) = some (!b || decide (nlo - lo ≤ n)) := by
  rw [w64 (nlo - lo) (by omega) (by omega)]
  cases b <;> simp
theorem may_tells (v lo hi ep nlo nhi nep n : Int) : expiry_MayBeFresh.f v lo hi ep nlo nhi nep n = some (may lo hi ep nlo nhi nep n) := by
  unfold expiry_MayBeFresh.f may
  rw [stamp_tells, stamp_tells, limit_tells, match_tells]
  simp -implicitDefEqProofs only [Option.bind_some]
  cases h1 : stp lo hi ep
  · rfl
  cases h2 : stp nlo nhi nep
  · rfl
  cases h4 : lmt n
  · rfl
  have a1 := stp_of h1
  have a2 := stp_of h2
  rw [if_pos rfl, if_pos rfl, if_pos rfl, may_tail lo nlo n _ (by omega) (by omega)]
  simp
theorem may41_tells (v lo hi ep nlo nhi nep n : Int) : trickleref41_MayBeFresh.f v lo hi ep nlo nhi nep n = some (may lo hi ep nlo nhi nep n) := by
  unfold trickleref41_MayBeFresh.f may
  rw [valid41_tells, stamp41_tells, limit41_tells, match41_tells]
  simp -implicitDefEqProofs only [Option.bind_some]
  cases h1 : stp lo hi ep
  · rfl
  cases h2 : stp nlo nhi nep
  · rfl
  cases h4 : lmt n
  · rfl
  have a1 := stp_of h1
  have a2 := stp_of h2
  rw [if_pos rfl, if_pos rfl, if_pos rfl, may_tail lo nlo n _ (by omega) (by omega)]
  simp
end Go.Proofs.Ytgefhejpaojhbaa.Plain
