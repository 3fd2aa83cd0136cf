/-
  RemanenceContains: the plain law.
-/
import Derived.Test.YtdklncgijnhodaaPlain
set_option linter.unusedVariables false
namespace Go.Proofs.Ytdklncgijnhodaa.ConPl
open Go.RowKit Go.Proofs.Ytdklncgijnhodaa.Pr Go.Proofs.Ytdklncgijnhodaa.Plain Go.Proofs.YtdklncgijnhodaaW.PrintWords Go.Proofs.YtdklncgijnhodaaW.PrintLast Go.Proofs.YtdklncgijnhodaaW.PrintMore
theorem run_tells (lo hi ep on : Int) (h : 0 ≤ lo ∧ lo ≤ hi ∧ hi ≤ 1099511627776) (h0 : 0 ≤ on) (h1 : on ≤ 4294967295) : remanence_Clock_Run.f lo hi ep on = some (0, clamp (lo + on), clamp (hi + on), ep) := by
  unfold remanence_Clock_Run.f remanence_tick.f interval_At.f remanence_Clock_Off.f
  rw [if_pos h0, decide_eq_true (by omega)]
  simp -implicitDefEqProofs only [Option.bind_some, if_true]
  have e : mx 0 (mn on 1099511627776) = on := by unfold mx mn; (repeat' split) <;> omega
  rw [e, add_tells]
  have v1 : vld lo hi = true := by unfold vld; exact decide_eq_true (by omega)
  have v2 : vld on on = true := by unfold vld; exact decide_eq_true (by omega)
  rw [if_pos ⟨v1, v2⟩]
  simp
theorem off_tells (lo hi ep x y : Int) (h : 0 ≤ lo ∧ lo ≤ hi ∧ hi ≤ 1099511627776) (h2 : 0 ≤ x ∧ x ≤ y ∧ y ≤ 1099511627776) : remanence_Clock_Off.f lo hi ep x y = some (0, clamp (lo + x), clamp (hi + y), ep) := by
  unfold remanence_Clock_Off.f
  rw [add_tells]
  have v1 : vld lo hi = true := by unfold vld; exact decide_eq_true (by omega)
  have v2 : vld x y = true := by unfold vld; exact decide_eq_true (by omega)
  rw [if_pos ⟨v1, v2⟩]
  simp
theorem sat_tells (lo hi ep x y : Int) (h : 0 ≤ lo ∧ lo ≤ hi ∧ hi ≤ 1099511627776) (h2 : 0 ≤ x ∧ x ≤ y ∧ y ≤ 1099511627776) (h3 : 0 ≤ ep) (h4 : ep ≤ 100) : remanence_Clock_Saturate.f lo hi ep x y = some (0, clamp (lo + x), clamp (lo + x), ep + 1) := by
  unfold remanence_Clock_Saturate.f
  rw [off_tells lo hi ep x y h h2]
  simp -implicitDefEqProofs only [Option.bind_some]
  rw [if_pos trivial, w64 (ep + 1) (by omega) (by omega)]
theorem right_tells (e s : Int) : trickleref09_Right.f e s = some (decide (0 ≤ e ∧ e ≤ 500 ∧ 1 ≤ s ∧ s ≤ 1099511627776)) := by
  unfold trickleref09_Right.f trickleref09_most.f
  simp -implicitDefEqProofs only [Option.bind_some]
  by_cases h1 : e ≥ 0
  · by_cases h2 : e ≤ 500
    · by_cases h3 : s ≥ 1
      · rw [if_pos h1, if_pos h2, if_pos h3]
        congr 1
        rw [decide_eq_decide]
        omega
      · rw [if_pos h1, if_pos h2, if_neg h3, decide_eq_false (by omega)]
    · rw [if_pos h1, if_neg h2, decide_eq_false (by omega)]
  · rw [if_neg h1, decide_eq_false (by omega)]
/-- A measurement: its bounds. -/
theorem measure_has (e s off : Int) (h : 0 ≤ e ∧ e ≤ 500 ∧ 1 ≤ s ∧ s ≤ 1099511627776) (h0 : 0 ≤ off) (h1 : off ≤ 4294967295) : ∃ x y ok, remanence_Measure.f 1 e s off = some (x, y, ok, 0) ∧ (0 ≤ x ∧ x ≤ y ∧ y ≤ 1099511627776) ∧ x ≤ off ∧ (ok = true → off ≤ y) := by
  have hm := measure_tells 0 e s off ⟨h.1, h.2.1, h.2.2.1, h.2.2.2, h0, by omega⟩
  by_cases hs : off > s
  · rw [if_pos hs] at hm
    exact ⟨_, _, _, hm, by omega, by omega, fun h => by cases h⟩
  · rw [if_neg hs] at hm
    have p0 : 0 ≤ off * e := Int.mul_nonneg h0 h.1
    have p1 : off * e ≤ off * 500 := Int.mul_le_mul_of_nonneg_left h.2.1 h0
    refine ⟨_, _, _, hm, ?_, ?_, fun _ => ?_⟩
    · unfold clamp
      (repeat' split) <;> omega
    · unfold clamp
      (repeat' split) <;> omega
    · unfold clamp
      (repeat' split) <;> omega
/-- What is known of the clock, of the reading taken and of the time that has passed since. -/
def Cst (lo hi ep tlo thi epoch P : Int) : Prop := 0 ≤ lo ∧ lo ≤ hi ∧ hi ≤ 1099511627776 ∧ 0 ≤ ep ∧ 0 ≤ tlo ∧ tlo ≤ thi ∧ thi ≤ 1099511627776 ∧ epoch ≤ ep ∧ (ep = epoch → hi < 1099511627776 → tlo ≤ lo ∧ lo - tlo ≤ P ∧ P ≤ hi - thi)
theorem Cst.taken {lo hi ep tlo thi epoch P : Int} (h : Cst lo hi ep tlo thi epoch P) : Cst lo hi ep lo hi ep 0 := by
  unfold Cst at *
  omega
theorem Cst.off {lo hi ep tlo thi epoch p on off x y : Int} (h : Cst lo hi ep tlo thi epoch p) (h0 : 0 ≤ on) (hx : 0 ≤ x ∧ x ≤ y ∧ y ≤ 1099511627776) (h1 : x ≤ off) (h2 : off ≤ y) : Cst (clamp (clamp (lo + on) + x)) (clamp (clamp (hi + on) + y)) ep tlo thi epoch (p + (on + off)) := by
  unfold Cst at *
  unfold clamp
  refine ⟨?_, ?_, ?_, ?_, ?_, ?_, ?_, ?_, ?_⟩ <;> (repeat' split) <;> omega
theorem Cst.sat {lo hi ep tlo thi epoch p on off x y : Int} (h : Cst lo hi ep tlo thi epoch p) (h0 : 0 ≤ on) (hx : 0 ≤ x ∧ x ≤ y ∧ y ≤ 1099511627776) : Cst (clamp (clamp (lo + on) + x)) (clamp (clamp (lo + on) + x)) (ep + 1) tlo thi epoch (p + (on + off)) := by
  unfold Cst at *
  unfold clamp
  refine ⟨?_, ?_, ?_, ?_, ?_, ?_, ?_, ?_, ?_⟩ <;> (repeat' split) <;> omega
/-- The age, where it is looked at. -/
theorem Cst.age {lo hi ep tlo thi p : Int} (h : Cst lo hi ep tlo thi ep p) (hm : hi < 1099511627776) : remanence_Age.f lo hi tlo thi = some (lo - tlo, hi - thi, 0) ∧ lo - tlo ≤ p ∧ p ≤ hi - thi := by
  unfold Cst at h
  obtain ⟨h1, h2, h3, h4, h5, h6, h7, _, h8⟩ := h
  obtain ⟨h9, h10, h11⟩ := h8 rfl hm
  refine ⟨?_, h10, h11⟩
  unfold remanence_Age.f
  rw [valid_tells, valid_tells, valid_tells]
  simp -implicitDefEqProofs only [Option.bind_some]
  have v1 : vld lo hi = true := by unfold vld; exact decide_eq_true (by omega)
  have v2 : vld tlo thi = true := by unfold vld; exact decide_eq_true (by omega)
  rw [w64 (lo - tlo) (by omega) (by omega), w64 (hi - thi) (by omega) (by omega)]
  have v3 : vld (lo - tlo) (hi - thi) = true := by unfold vld; exact decide_eq_true (by omega)
  rw [if_pos v1, if_pos v2, if_pos v3]
end Go.Proofs.Ytdklncgijnhodaa.ConPl
