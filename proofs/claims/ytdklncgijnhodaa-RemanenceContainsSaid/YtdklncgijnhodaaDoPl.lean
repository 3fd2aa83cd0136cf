/-
  One operation on a clock: the clock and the reference tell the same (plain law).
-/
import Derived.Test.YtdklncgijnhodaaPlain
set_option linter.unusedVariables false
namespace Go.Proofs.Ytdklncgijnhodaa.DoPl
open Go.RowKit Go.Proofs.Ytdklncgijnhodaa.Pr Go.Proofs.Ytdklncgijnhodaa.Plain Go.Proofs.YtdklncgijnhodaaW.PrintWords Go.Proofs.YtdklncgijnhodaaW.PrintLast Go.Proofs.YtdklncgijnhodaaW.PrintMore
/-- A state that a clock may have. -/
def Okay (lo hi ep : Int) : Prop := 0 ≤ lo ∧ lo ≤ hi ∧ hi ≤ 1099511627776 ∧ 0 ≤ ep ∧ ep ≤ 2000000000
/-- What an operation does to a clock's state. -/
def Ste (lo hi ep lo' hi' ep' : Int) : Prop := 0 ≤ lo' ∧ lo ≤ lo' ∧ lo' ≤ hi' ∧ hi' ≤ 1099511627776 ∧ ep ≤ ep' ∧ ep' ≤ ep + 1 ∧ (ep' = ep → hi ≤ hi' ∧ (hi' < 1099511627776 → hi - lo ≤ hi' - lo'))
theorem Ste.refl {lo hi ep : Int} (h : Okay lo hi ep) : Ste lo hi ep lo hi ep := by
  unfold Okay at h
  unfold Ste
  omega
theorem off_same (k : Nat) {lo hi ep : Int} (x y : Int) (h : Okay lo hi ep) : ∃ er lo' hi', remanence_Clock_Off.f lo hi ep x y = some (er, lo', hi', ep) ∧ trickleref09_Off.f (k + 1) lo hi ep x y = some (lo', hi', ep, er) ∧ Ste lo hi ep lo' hi' ep ∧ (er = 0 ∧ vld x y = true ∧ lo' = clamp (lo + x) ∨ er = 1 ∧ lo' = lo ∧ hi' = hi ∧ vld x y = false) := by
  have hv : vld lo hi = true := by unfold vld Okay at *; exact decide_eq_true (by omega)
  unfold remanence_Clock_Off.f trickleref09_Off.f
  rw [add_tells, add5_tells]
  by_cases h2 : vld x y = true
  · rw [if_pos ⟨hv, h2⟩, Option.bind_some, Option.bind_some, if_pos rfl, if_pos rfl]
    refine ⟨0, clamp (lo + x), clamp (hi + y), rfl, rfl, ?_, .inl ⟨rfl, h2, rfl⟩⟩
    simp only [vld, decide_eq_true_eq] at h2
    unfold Okay at h
    unfold Ste clamp
    (repeat' split) <;> omega
  · rw [if_neg (fun h => h2 h.2), Option.bind_some, Option.bind_some, if_neg (by decide), if_neg (by decide)]
    exact ⟨1, lo, hi, rfl, rfl, Ste.refl h, .inr ⟨rfl, rfl, rfl, Bool.eq_false_iff.2 h2⟩⟩
theorem run_same (k : Nat) {lo hi ep : Int} (t : Int) (h : Okay lo hi ep) : ∃ er lo' hi', remanence_Clock_Run.f lo hi ep t = some (er, lo', hi', ep) ∧ trickleref09_Run.f (k + 1) lo hi ep t = some (lo', hi', ep, er) ∧ Ste lo hi ep lo' hi' ep ∧ (er = 0 ∨ er = 1) := by
  unfold remanence_Clock_Run.f trickleref09_Run.f remanence_tick.f trickleref09_most.f interval_At.f
  by_cases h1 : t < 0
  · rw [if_neg (show ¬ t ≥ 0 by omega), if_pos h1, Option.bind_some, if_neg (by decide)]
    exact ⟨1, lo, hi, rfl, rfl, Ste.refl h, .inr rfl⟩
  · rw [if_pos (show t ≥ 0 by omega), if_neg h1, Option.bind_some, Option.bind_some, Option.bind_some]
    by_cases h2 : t > 1099511627776
    · rw [decide_eq_false (by omega), if_pos h2, if_neg (by decide)]
      exact ⟨1, lo, hi, rfl, rfl, Ste.refl h, .inr rfl⟩
    · have e : mx 0 (mn t 1099511627776) = t := by unfold mx mn; (repeat' split) <;> omega
      obtain ⟨er, lo', hi', h3, h4, h5, h6⟩ := off_same k t t h
      rw [decide_eq_true (by omega), if_neg h2, if_pos rfl, e, h3, h4]
      refine ⟨er, lo', hi', rfl, rfl, h5, ?_⟩
      rcases h6 with h6 | h6
      · exact .inl h6.1
      · exact .inr h6.1
theorem sat_same {lo hi ep : Int} (x y : Int) (h : Okay lo hi ep) : ∃ er lo' hi' ep', remanence_Clock_Saturate.f lo hi ep x y = some (er, lo', hi', ep') ∧ trickleref09_Saturate.f lo hi ep x y = some (lo', hi', ep', er) ∧ Ste lo hi ep lo' hi' ep' ∧ (er = 0 ∨ er = 1) := by
  obtain ⟨er, lo', hi', h3, _, h5, h6⟩ := off_same 0 x y h
  unfold remanence_Clock_Saturate.f trickleref09_Saturate.f
  rw [h3, valid5_tells, Option.bind_some, Option.bind_some]
  rcases h6 with ⟨rfl, hv, rfl⟩ | ⟨rfl, rfl, rfl, hv⟩
  · rw [if_pos rfl, hv, if_pos rfl, clamp_tells, Option.bind_some]
    simp only [vld, decide_eq_true_eq] at hv
    have h' := h
    unfold Okay at h'
    rw [w64 (lo + x) (by omega) (by omega), w64 (ep + 1) (by omega) (by omega)]
    refine ⟨0, clamp (lo + x), clamp (lo + x), ep + 1, rfl, rfl, ?_, .inl rfl⟩
    unfold Ste at *
    omega
  · rw [if_neg (by omega), hv, if_neg (by decide)]
    exact ⟨1, _, _, _, rfl, rfl, Ste.refl h, .inr rfl⟩
end Go.Proofs.Ytdklncgijnhodaa.DoPl
