/-
  RemanenceMeasure: for every configuration and off time, Measure returns the reference's interval, which contains the off time. RemanenceAge: for all intervals, Age returns the reference's answer.
  Conditions: none beyond the statements' own.
-/
import Derived.Test.YtdklncgijnhodaaPlain
import Derived.Lib.SmallJoins
import Derived.ProofKit
import Derived.OpenShut
namespace Go.Proofs.Ytdklncgijnhodaa.Laws1
open Go.RowKit Go.ChangeShapes Go.WideShapes Go.ChangeAt Go.Proofs.Ytdklncgijnhodaa.Pr Go.Proofs.Ytdklncgijnhodaa.Plain Go.Proofs.YtdklncgijnhodaaW.PrintWords
variable {H : Type} {enc : TypeId × Value → H}
theorem int_of {P : Program} {w : World} {base fuel : Nat} {spare : Nat → Bool} {held : Bool} {t : TypeId} {k : IntKind} {v : Value} {y : DataW H × List MemPlace} (hu : P.underlying t = some (.int k)) (h : DataW.trod enc P w base spare held fuel t [v] = some y) : ∃ n, v = .int k n ∧ (Lit.int k n).wf = true := by
  cases fuel with
  | zero => simp [DataW.trod] at h
  | succ f =>
    cases v <;> simp [DataW.trod, hu] at h
    rename_i k' n
    obtain ⟨⟨rfl, h⟩, _⟩ := h
    exact ⟨n, rfl, h⟩
theorem measure_walk (W : World) (base : Nat) (v0 : Value) (d0 : DataW H) (p0 : List MemPlace) (v1 : Value) (d1 : DataW H) (p1 : List MemPlace) (o0 : Value.okWide Try.prog W .any base 23 v0) (h0 : DataW.Trod enc Try.prog W 0 (fun _ => true) true 23 v0 d0 p0) (o1 : Value.okWide Try.prog W .any base 2 v1) (h1 : DataW.Trod enc Try.prog W 0 (fun _ => true) true 2 v1 d1 p1) :
    Calls Try.prog 3 #[v0, v1] W fun e w' => e = .returned (.bool true) ∧ Below W.heap.size W w' := by
  obtain ⟨c0, c1, y0, y1, n, rfl, rfl, rfl, hy0, hy1⟩ := Joins.open_agg2 Try.underlying23 (by kernel_rfl) (by kernel_rfl) o0 h0
  obtain ⟨x0, rfl, _⟩ := int_of Try.underlying3 hy0
  obtain ⟨x1, rfl, _⟩ := int_of Try.underlying2 hy1
  obtain ⟨x2, rfl, rfl, rfl, _⟩ := open_int Try.underlying2 o1 h1
  exact tricklelaw09_RemanenceMeasure.calls 1 x0 x1 x2 true W (law_measure x0 x1 x2)
theorem age_walk (W : World) (base : Nat) (v0 : Value) (d0 : DataW H) (p0 : List MemPlace) (v1 : Value) (d1 : DataW H) (p1 : List MemPlace) (o0 : Value.okWide Try.prog W .any base 25 v0) (h0 : DataW.Trod enc Try.prog W 0 (fun _ => true) true 25 v0 d0 p0) (o1 : Value.okWide Try.prog W .any base 25 v1) (h1 : DataW.Trod enc Try.prog W 0 (fun _ => true) true 25 v1 d1 p1) :
    Calls Try.prog 5 #[v0, v1] W fun e w' => e = .returned (.bool true) ∧ Below W.heap.size W w' := by
  obtain ⟨c0, c1, y0, y1, n, rfl, rfl, rfl, hy0, hy1⟩ := Joins.open_agg2 Try.underlying25 (by kernel_rfl) (by kernel_rfl) o0 h0
  obtain ⟨c2, c3, y2, y3, m, rfl, rfl, rfl, hy2, hy3⟩ := Joins.open_agg2 Try.underlying25 (by kernel_rfl) (by kernel_rfl) o1 h1
  obtain ⟨x0, rfl, _⟩ := int_of Try.underlying2 hy0
  obtain ⟨x1, rfl, _⟩ := int_of Try.underlying2 hy1
  obtain ⟨x2, rfl, _⟩ := int_of Try.underlying2 hy2
  obtain ⟨x3, rfl, _⟩ := int_of Try.underlying2 hy3
  exact tricklelaw09_RemanenceAge.calls 1 x0 x1 x2 x3 true W (law_age x0 x1 x2 x3)
end Go.Proofs.Ytdklncgijnhodaa.Laws1
