/-
  The plain laws of intervals and clocks: what the printed functions of the layers 5 and 9 tell.
-/
import Derived.Test.YtdklncgijnhodaaPr3
import Derived.Test.YtdklncgijnhodaaPr4
namespace Go.Proofs.Ytdklncgijnhodaa.Plain
open Go.RowKit Go.Proofs.Ytdklncgijnhodaa.Pr Go.Proofs.YtdklncgijnhodaaW.PrintWords Go.Proofs.YtdklncgijnhodaaW.PrintLast Go.Proofs.YtdklncgijnhodaaW.PrintMore
theorem w64 (n : Int) (h1 : -9223372036854775808 ≤ n) (h2 : n ≤ 9223372036854775807) : wrap64 n = n := by
  unfold wrap64
  omega
def vld (a b : Int) : Bool := decide (0 ≤ a ∧ a ≤ b ∧ b ≤ 1099511627776)
def clamp (t : Int) : Int := if t < 0 then 0 else if t > 1099511627776 then 1099511627776 else t
theorem valid_tells (a b : Int) : interval_Valid.f a b = some (vld a b) := by
  unfold interval_Valid.f vld
  by_cases h1 : a ≥ 0
  · by_cases h2 : a ≤ b
    · rw [if_pos h1, if_pos h2]
      congr 1
      rw [decide_eq_decide]
      omega
    · rw [if_pos h1, if_neg h2, decide_eq_false (by omega)]
  · rw [if_neg h1, decide_eq_false (by omega)]
theorem valid5_tells (a b : Int) : trickleref05_Valid.f a b = some (vld a b) := by
  rw [← valid_tells]
  unfold interval_Valid.f trickleref05_Valid.f trickleref05_most.f
  simp -implicitDefEqProofs only [Option.bind_some]
theorem clamp_tells (t : Int) : trickleref05_Clamp.f t = some (clamp t) := by
  unfold trickleref05_Clamp.f clamp trickleref05_most.f
  simp -implicitDefEqProofs only [Option.bind_some]
  split
  · rfl
  · split <;> rfl
/-- The sum of two intervals. -/
theorem add_tells (a b c d : Int) : interval_Add.f a b c d = if vld a b = true ∧ vld c d = true then some (clamp (a + c), clamp (b + d), 0) else some (0, 0, 1) := by
  unfold interval_Add.f
  rw [valid_tells, valid_tells]
  simp -implicitDefEqProofs only [Option.bind_some]
  by_cases h1 : vld a b = true
  · by_cases h2 : vld c d = true
    · rw [if_pos h1, if_pos h2, if_pos ⟨h1, h2⟩]
      simp only [vld, decide_eq_true_eq] at h1 h2
      rw [w64 (a + c) (by omega) (by omega), w64 (b + d) (by omega) (by omega)]
      have e1 : mn (a + c) 1099511627776 = clamp (a + c) := by unfold mn clamp; (repeat' split) <;> omega
      have e2 : mn (b + d) 1099511627776 = clamp (b + d) := by unfold mn clamp; (repeat' split) <;> omega
      rw [e1, e2]
    · rw [if_pos h1, if_neg h2, if_neg (fun h => h2 h.2)]
  · rw [if_neg h1, if_neg (fun h => h1 h.1)]
theorem add5_tells (k : Nat) (a b c d : Int) : trickleref05_Add.f (k + 1) a b c d = if vld a b = true ∧ vld c d = true then some (clamp (a + c), clamp (b + d), 0) else some (0, 0, 1) := by
  unfold trickleref05_Add.f
  rw [valid5_tells, valid5_tells]
  simp -implicitDefEqProofs only [Option.bind_some]
  by_cases h1 : vld a b = true
  · by_cases h2 : vld c d = true
    · rw [if_pos h1, if_pos ⟨h1, h2⟩, h2]
      simp only [vld, decide_eq_true_eq] at h1 h2
      simp only [trickleref05_Add.j0]
      rw [if_neg (by simp), clamp_tells, clamp_tells]
      simp -implicitDefEqProofs only [Option.bind_some]
      rw [w64 (a + c) (by omega) (by omega), w64 (b + d) (by omega) (by omega)]
    · rw [if_pos h1, if_neg (fun h => h2 h.2), Bool.eq_false_iff.2 h2]
      simp only [trickleref05_Add.j0]
      rw [if_pos (by rfl)]
  · rw [if_neg h1, if_neg (fun h => h1 h.1)]
    simp only [trickleref05_Add.j0]
    rw [if_pos trivial]
theorem age_same (k : Nat) (a b c d : Int) : ∃ r, remanence_Age.f a b c d = some r ∧ trickleref09_Age.f (k + 1) a b c d = some r := by
  unfold remanence_Age.f trickleref09_Age.f
  rw [valid_tells, valid_tells, valid_tells, valid5_tells, valid5_tells]
  simp -implicitDefEqProofs only [Option.bind_some]
  by_cases h1 : vld a b = true
  · by_cases h2 : vld c d = true
    · have hj : trickleref09_Age.j0 (k + 1) (!true) a b c d = if vld (wrap64 (a - c)) (wrap64 (b - d)) = true then some (wrap64 (a - c), wrap64 (b - d), 0) else some (0, 0, 1) := by
        simp only [trickleref09_Age.j0]
        rw [if_neg (by simp), valid5_tells]
        simp -implicitDefEqProofs only [Option.bind_some]
      rw [if_pos h1, if_pos h2, if_pos h1, h2, hj]
      by_cases h3 : vld (wrap64 (a - c)) (wrap64 (b - d)) = true
      · rw [if_pos h3]
        exact ⟨_, rfl, rfl⟩
      · rw [if_neg h3]
        exact ⟨_, rfl, rfl⟩
    · rw [if_pos h1, if_neg h2, if_pos h1, Bool.eq_false_iff.2 h2]
      simp only [trickleref09_Age.j0]
      rw [if_pos (by rfl)]
      exact ⟨_, rfl, rfl⟩
  · rw [if_neg h1, if_neg h1]
    simp only [trickleref09_Age.j0]
    rw [if_pos trivial]
    exact ⟨_, rfl, rfl⟩
theorem law_age (a b c d : Int) : tricklelaw09_RemanenceAge.f 1 a b c d = some true := by
  obtain ⟨⟨r1, r2, r3⟩, h1, h2⟩ := age_same 0 a b c d
  unfold tricklelaw09_RemanenceAge.f tricklelaw09_examples.f
  rw [h1, h2]
  simp -implicitDefEqProofs only [Option.bind_some]
  simp
/-- What Measure tells of a valid configuration and an off time in range. -/
theorem measure_tells (k : Nat) (e s off : Int) (h : 0 ≤ e ∧ e ≤ 500 ∧ 1 ≤ s ∧ s ≤ 1099511627776 ∧ 0 ≤ off ∧ off ≤ 1099511627776) :
    remanence_Measure.f (k + 1) e s off = some (if off > s then (s, 1099511627776, false, 0) else (clamp (off - off * e / 1000 - 1), clamp (off + off * e / 1000 + 1), true, 0)) := by
  obtain ⟨e0, e1, s0, s1, o0, o1⟩ := h
  have p0 : 0 ≤ off * e := Int.mul_nonneg o0 e0
  have p1 : off * e ≤ 1099511627776 * 500 := Int.mul_le_mul o1 e1 e0 (by omega)
  unfold remanence_Measure.f remanence_Config_valid.f remanence_tick.f
  rw [if_pos (by omega), if_pos (by omega), if_pos (by omega), decide_eq_true s1]
  simp -implicitDefEqProofs only [Option.bind_some, if_true]
  rw [if_pos (by omega), decide_eq_true o1]
  simp -implicitDefEqProofs only [Option.bind_some]
  simp only [remanence_Measure.j0]
  rw [if_neg (by simp)]
  by_cases hs : off > s
  · rw [if_pos hs, if_pos hs]
  · rw [if_neg hs, if_neg hs]
    generalize off * e = p at *
    have ed : Int.tdiv p 1000 = p / 1000 := Int.tdiv_eq_ediv_of_nonneg p0
    have d0 : 0 ≤ p / 1000 := by omega
    have d1 : p / 1000 ≤ 549755813888 := by omega
    rw [w64 p (by omega) (by omega), ed]
    generalize p / 1000 = d at *
    rw [w64 d (by omega) (by omega), w64 (off - d) (by omega) (by omega), w64 (off - d - 1) (by omega) (by omega), w64 (off + d) (by omega) (by omega), w64 (off + d + 1) (by omega) (by omega)]
    have e3 : mx (off - d - 1) 0 = clamp (off - d - 1) := by unfold mx clamp; (repeat' split) <;> omega
    have e4 : mn (off + d + 1) 1099511627776 = clamp (off + d + 1) := by unfold mn clamp; (repeat' split) <;> omega
    rw [e3, e4]
theorem measure_bad (k : Nat) (e s off : Int) (h : ¬ (0 ≤ e ∧ e ≤ 500 ∧ 1 ≤ s ∧ s ≤ 1099511627776 ∧ 0 ≤ off ∧ off ≤ 1099511627776)) : remanence_Measure.f (k + 1) e s off = some (0, 0, false, 1) := by
  unfold remanence_Measure.f remanence_Config_valid.f remanence_tick.f
  have hj : remanence_Measure.j0 (k + 1) off true e s = some (0, 0, false, 1) := by
    simp only [remanence_Measure.j0]
    rw [if_pos trivial]
  by_cases h1 : e ≥ 0 ∧ e ≤ 500 ∧ s ≥ 1 ∧ s ≤ 1099511627776
  · rw [if_pos h1.1, if_pos h1.2.1, if_pos h1.2.2.1, decide_eq_true h1.2.2.2]
    simp -implicitDefEqProofs only [Option.bind_some, if_true]
    by_cases h2 : off ≥ 0
    · rw [if_pos h2, decide_eq_false (by omega)]
      exact hj
    · rw [if_neg h2]
      exact hj
  · have hz : (if e ≥ 0 then if e ≤ 500 then if s ≥ 1 then some (decide (s ≤ 1099511627776)) else some false else some false else some false) = some false := by
      split
      · split
        · split
          · rw [decide_eq_false (by omega)]
          · rfl
        · rfl
      · rfl
    rw [hz]
    simp -implicitDefEqProofs only [Option.bind_some]
    rw [if_neg (by simp)]
    exact hj
theorem measure9_tells (k : Nat) (e s off : Int) : trickleref09_Measure.f (k + 1) e s off = remanence_Measure.f (k + 1) e s off := by
  by_cases h : 0 ≤ e ∧ e ≤ 500 ∧ 1 ≤ s ∧ s ≤ 1099511627776 ∧ 0 ≤ off ∧ off ≤ 1099511627776
  · rw [measure_tells k e s off h]
    obtain ⟨e0, e1, s0, s1, o0, o1⟩ := h
    have p0 : 0 ≤ off * e := Int.mul_nonneg o0 e0
    have p1 : off * e ≤ 1099511627776 * 500 := Int.mul_le_mul o1 e1 e0 (by omega)
    unfold trickleref09_Measure.f trickleref09_Right.f trickleref09_most.f
    rw [if_pos (by omega), if_pos (by omega), if_pos (by omega)]
    simp -implicitDefEqProofs only [Option.bind_some]
    rw [decide_eq_true s1, if_pos rfl, if_neg (by omega), decide_eq_false (by omega)]
    simp only [trickleref09_Measure.j0]
    rw [if_neg (by simp)]
    by_cases hs : off > s
    · rw [if_pos hs, if_pos hs]
      unfold trickleref09_most.f
      rfl
    · rw [if_neg hs, if_neg hs]
      generalize off * e = p at *
      have ed : Int.tdiv p 1000 = p / 1000 := Int.tdiv_eq_ediv_of_nonneg p0
      have d0 : 0 ≤ p / 1000 := by omega
      have d1 : p / 1000 ≤ 549755813888 := by omega
      rw [w64 p (by omega) (by omega), ed]
      generalize p / 1000 = d at *
      rw [w64 d (by omega) (by omega), w64 (off - d) (by omega) (by omega), w64 (off - d - 1) (by omega) (by omega), w64 (off + d) (by omega) (by omega), w64 (off + d + 1) (by omega) (by omega), clamp_tells, clamp_tells]
      simp -implicitDefEqProofs only [Option.bind_some]
  · rw [measure_bad k e s off h]
    have hj : trickleref09_Measure.j0 (k + 1) off true e s = some (0, 0, false, 1) := by
      simp only [trickleref09_Measure.j0]
      rw [if_pos trivial]
    unfold trickleref09_Measure.f trickleref09_Right.f trickleref09_most.f
    simp -implicitDefEqProofs only [Option.bind_some]
    by_cases h1 : e ≥ 0 ∧ e ≤ 500 ∧ s ≥ 1 ∧ s ≤ 1099511627776
    · rw [if_pos h1.1, if_pos h1.2.1, if_pos h1.2.2.1, decide_eq_true h1.2.2.2]
      simp -implicitDefEqProofs only [Option.bind_some, if_true]
      by_cases h2 : off < 0
      · rw [if_pos h2]
        exact hj
      · rw [if_neg h2, decide_eq_true (by omega)]
        exact hj
    · have hz : (if e ≥ 0 then if e ≤ 500 then if s ≥ 1 then some (decide (s ≤ 1099511627776)) else some false else some false else some false) = some false := by
        split
        · split
          · split
            · rw [decide_eq_false (by omega)]
            · rfl
          · rfl
        · rfl
      rw [hz]
      simp -implicitDefEqProofs only [Option.bind_some]
      rw [if_neg (by simp)]
      exact hj
theorem law_measure (e s off : Int) : tricklelaw09_RemanenceMeasure.f 1 e s off = some true := by
  unfold tricklelaw09_RemanenceMeasure.f tricklelaw09_examples.f tricklelaw09_own.f
  rw [measure9_tells]
  simp -implicitDefEqProofs only [Option.bind_some]
  by_cases h : 0 ≤ e ∧ e ≤ 500 ∧ 1 ≤ s ∧ s ≤ 1099511627776 ∧ 0 ≤ off ∧ off ≤ 1099511627776
  · rw [measure_tells 0 e s off h]
    simp -implicitDefEqProofs only [Option.bind_some]
    obtain ⟨e0, e1, s0, s1, o0, o1⟩ := h
    have p0 : 0 ≤ off * e := Int.mul_nonneg o0 e0
    generalize off * e = p at *
    have d0 : 0 ≤ p / 1000 := by omega
    generalize p / 1000 = d at *
    by_cases hs : off > s
    · rw [if_pos hs]
      simp
      rw [if_pos (by omega), decide_eq_true o1]
    · rw [if_neg hs]
      have c1 : clamp (off - d - 1) ≤ off := by unfold clamp; (repeat' split) <;> omega
      have c2 : off ≤ clamp (off + d + 1) := by unfold clamp; (repeat' split) <;> omega
      simp [c1, c2]
  · rw [measure_bad 0 e s off h]
    simp
end Go.Proofs.Ytdklncgijnhodaa.Plain
