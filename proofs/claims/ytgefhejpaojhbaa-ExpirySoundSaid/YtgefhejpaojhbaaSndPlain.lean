/-
  The plain law of the clock in layer 41's statement.
-/
import Derived.Test.YtgefhejpaojhbaaPs1
namespace Go.Proofs.Ytgefhejpaojhbaa.Snd
open Go.RowKit Go.Proofs.Ytgefhejpaojhbaa.Ps Go.Proofs.YtgefhejpaojhbaaW.PrintWords Go.Proofs.YtgefhejpaojhbaaW.PrintLast Go.Proofs.YtgefhejpaojhbaaW.PrintMore
theorem w64 (n : Int) (h1 : -9223372036854775808 ≤ n) (h2 : n ≤ 9223372036854775807) : wrap64 n = n := by
  unfold wrap64
  omega
def vld (a b : Int) : Bool := decide (0 ≤ a ∧ a ≤ b ∧ b ≤ 1099511627776)
def clamp (t : Int) : Int := if t < 0 then 0 else if t > 1099511627776 then 1099511627776 else t
theorem valid_tells (a b : Int) : interval_Valid.f a b = some (vld a b) := by
  unfold interval_Valid.f vld
  by_cases h1 : a ≥ 0
  · by_cases h2 : a ≤ b
    · rw [if_pos h1, if_pos h2]
      congr 1
      rw [decide_eq_decide]
      omega
    · rw [if_pos h1, if_neg h2, decide_eq_false (by omega)]
  · rw [if_neg h1, decide_eq_false (by omega)]
/-- The sum of two intervals. -/
theorem add_tells (a b c d : Int) : interval_Add.f a b c d = if vld a b = true ∧ vld c d = true then some (clamp (a + c), clamp (b + d), 0) else some (0, 0, 1) := by
  unfold interval_Add.f
  rw [valid_tells, valid_tells]
  simp -implicitDefEqProofs only [Option.bind_some]
  by_cases h1 : vld a b = true
  · by_cases h2 : vld c d = true
    · rw [if_pos h1, if_pos h2, if_pos ⟨h1, h2⟩]
      simp only [vld, decide_eq_true_eq] at h1 h2
      rw [w64 (a + c) (by omega) (by omega), w64 (b + d) (by omega) (by omega)]
      have e1 : mn (a + c) 1099511627776 = clamp (a + c) := by unfold mn clamp; (repeat' split) <;> omega
      have e2 : mn (b + d) 1099511627776 = clamp (b + d) := by unfold mn clamp; (repeat' split) <;> omega
      rw [e1, e2]
    · rw [if_pos h1, if_neg h2, if_neg (fun h => h2 h.2)]
  · rw [if_neg h1, if_neg (fun h => h1 h.1)]
theorem measure_tells (k : Nat) (e s off : Int) (h : 0 ≤ e ∧ e ≤ 500 ∧ 1 ≤ s ∧ s ≤ 1099511627776 ∧ 0 ≤ off ∧ off ≤ 1099511627776) :
    remanence_Measure.f (k + 1) e s off = some (if off > s then (s, 1099511627776, false, 0) else (clamp (off - off * e / 1000 - 1), clamp (off + off * e / 1000 + 1), true, 0)) := by
  obtain ⟨e0, e1, s0, s1, o0, o1⟩ := h
  have p0 : 0 ≤ off * e := Int.mul_nonneg o0 e0
  have p1 : off * e ≤ 1099511627776 * 500 := Int.mul_le_mul o1 e1 e0 (by omega)
  unfold remanence_Measure.f remanence_Config_valid.f remanence_tick.f
  rw [if_pos (by omega), if_pos (by omega), if_pos (by omega), decide_eq_true s1]
  simp -implicitDefEqProofs only [Option.bind_some, if_true]
  rw [if_pos (by omega), decide_eq_true o1]
  simp -implicitDefEqProofs only [Option.bind_some]
  simp only [remanence_Measure.j0]
  rw [if_neg (by simp)]
  by_cases hs : off > s
  · rw [if_pos hs, if_pos hs]
  · rw [if_neg hs, if_neg hs]
    generalize off * e = p at *
    have ed : Int.tdiv p 1000 = p / 1000 := Int.tdiv_eq_ediv_of_nonneg p0
    have d0 : 0 ≤ p / 1000 := by omega
    have d1 : p / 1000 ≤ 549755813888 := by omega
    rw [w64 p (by omega) (by omega), ed]
    generalize p / 1000 = d at *
    rw [w64 d (by omega) (by omega), w64 (off - d) (by omega) (by omega), w64 (off - d - 1) (by omega) (by omega), w64 (off + d) (by omega) (by omega), w64 (off + d + 1) (by omega) (by omega)]
    have e3 : mx (off - d - 1) 0 = clamp (off - d - 1) := by unfold mx clamp; (repeat' split) <;> omega
    have e4 : mn (off + d + 1) 1099511627776 = clamp (off + d + 1) := by unfold mn clamp; (repeat' split) <;> omega
    rw [e3, e4]
/-- What is known of the clock when so much time has passed. -/
def St (lo hi ep p : Int) : Prop := 0 ≤ lo ∧ lo ≤ hi ∧ hi ≤ 1099511627776 ∧ 0 ≤ ep ∧ lo ≤ p ∧ (ep = 0 → hi < 1099511627776 → p ≤ hi)
theorem run_tells (lo hi ep on : Int) (h : 0 ≤ lo ∧ lo ≤ hi ∧ hi ≤ 1099511627776) (h0 : 0 ≤ on) (h1 : on ≤ 65535) : remanence_Clock_Run.f lo hi ep on = some (0, clamp (lo + on), clamp (hi + on), ep) := by
  unfold remanence_Clock_Run.f remanence_tick.f interval_At.f remanence_Clock_Off.f
  rw [if_pos h0, decide_eq_true (by omega)]
  simp -implicitDefEqProofs only [Option.bind_some, if_true]
  have e : mx 0 (mn on 1099511627776) = on := by unfold mx mn; (repeat' split) <;> omega
  rw [e, add_tells]
  have v1 : vld lo hi = true := by unfold vld; exact decide_eq_true (by omega)
  have v2 : vld on on = true := by unfold vld; exact decide_eq_true (by omega)
  rw [if_pos ⟨v1, v2⟩]
  simp
theorem off_tells (lo hi ep x y : Int) (h : 0 ≤ lo ∧ lo ≤ hi ∧ hi ≤ 1099511627776) (h2 : 0 ≤ x ∧ x ≤ y ∧ y ≤ 1099511627776) : remanence_Clock_Off.f lo hi ep x y = some (0, clamp (lo + x), clamp (hi + y), ep) := by
  unfold remanence_Clock_Off.f
  rw [add_tells]
  have v1 : vld lo hi = true := by unfold vld; exact decide_eq_true (by omega)
  have v2 : vld x y = true := by unfold vld; exact decide_eq_true (by omega)
  rw [if_pos ⟨v1, v2⟩]
  simp
theorem sat_tells (lo hi ep x y : Int) (h : 0 ≤ lo ∧ lo ≤ hi ∧ hi ≤ 1099511627776) (h2 : 0 ≤ x ∧ x ≤ y ∧ y ≤ 1099511627776) (h3 : 0 ≤ ep) (h4 : ep ≤ 100) : remanence_Clock_Saturate.f lo hi ep x y = some (0, clamp (lo + x), clamp (lo + x), ep + 1) := by
  unfold remanence_Clock_Saturate.f
  rw [off_tells lo hi ep x y h h2]
  simp -implicitDefEqProofs only [Option.bind_some]
  rw [if_pos trivial, w64 (ep + 1) (by omega) (by omega)]
theorem right_tells (e s : Int) : trickleref09_Right.f e s = some (decide (0 ≤ e ∧ e ≤ 500 ∧ 1 ≤ s ∧ s ≤ 1099511627776)) := by
  unfold trickleref09_Right.f trickleref09_most.f
  simp -implicitDefEqProofs only [Option.bind_some]
  by_cases h1 : e ≥ 0
  · by_cases h2 : e ≤ 500
    · by_cases h3 : s ≥ 1
      · rw [if_pos h1, if_pos h2, if_pos h3]
        congr 1
        rw [decide_eq_decide]
        omega
      · rw [if_pos h1, if_pos h2, if_neg h3, decide_eq_false (by omega)]
    · rw [if_pos h1, if_neg h2, decide_eq_false (by omega)]
  · rw [if_neg h1, decide_eq_false (by omega)]
/-- A measurement: its bounds. -/
theorem measure_has (e s off : Int) (h : 0 ≤ e ∧ e ≤ 500 ∧ 1 ≤ s ∧ s ≤ 1099511627776) (h0 : 0 ≤ off) (h1 : off ≤ 65535) : ∃ x y ok, remanence_Measure.f 1 e s off = some (x, y, ok, 0) ∧ (0 ≤ x ∧ x ≤ y ∧ y ≤ 1099511627776) ∧ x ≤ off ∧ (ok = true → off ≤ y) := by
  have hm := measure_tells 0 e s off ⟨h.1, h.2.1, h.2.2.1, h.2.2.2, h0, by omega⟩
  by_cases hs : off > s
  · rw [if_pos hs] at hm
    exact ⟨_, _, _, hm, by omega, by omega, fun h => by cases h⟩
  · rw [if_neg hs] at hm
    have p0 : 0 ≤ off * e := Int.mul_nonneg h0 h.1
    have p1 : off * e ≤ off * 500 := Int.mul_le_mul_of_nonneg_left h.2.1 h0
    refine ⟨_, _, _, hm, ?_, ?_, fun _ => ?_⟩
    · unfold clamp
      (repeat' split) <;> omega
    · unfold clamp
      (repeat' split) <;> omega
    · unfold clamp
      (repeat' split) <;> omega
/-- One round, the measurement being good. -/
theorem St.off {lo hi ep p on off x y : Int} (h : St lo hi ep p) (h0 : 0 ≤ on) (hx : 0 ≤ x ∧ x ≤ y ∧ y ≤ 1099511627776) (h1 : x ≤ off) (h2 : off ≤ y) : St (clamp (clamp (lo + on) + x)) (clamp (clamp (hi + on) + y)) ep (p + (on + off)) := by
  unfold St at *
  unfold clamp
  refine ⟨?_, ?_, ?_, ?_, ?_, ?_⟩ <;> (repeat' split) <;> omega
theorem St.sat {lo hi ep p on off x y : Int} (h : St lo hi ep p) (h0 : 0 ≤ on) (hx : 0 ≤ x ∧ x ≤ y ∧ y ≤ 1099511627776) (h1 : x ≤ off) : St (clamp (clamp (lo + on) + x)) (clamp (clamp (lo + on) + x)) (ep + 1) (p + (on + off)) := by
  unfold St at *
  unfold clamp
  refine ⟨?_, ?_, ?_, ?_, ?_, ?_⟩ <;> (repeat' split) <;> omega
end Go.Proofs.Ytgefhejpaojhbaa.Snd
