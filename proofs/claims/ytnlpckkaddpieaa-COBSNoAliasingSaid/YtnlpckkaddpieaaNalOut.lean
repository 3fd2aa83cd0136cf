/-
  COBSNoAliasing: too many bytes or none; and the walk of the statement.
-/
import Derived.Test.YtnlpckkaddpieaaNal
set_option linter.unusedVariables false
namespace Go.Proofs.Ytnlpckkaddpieaa.NalOut
open Go.RowKit Go.ChangeShapes Go.WideShapes Go.ChangeAt Go.Proofs.Ytnlpckkaddpieaa.Pr Go.Proofs.Ytnlpckkaddpieaa.Plain Go.Proofs.YtnlpckkaddpieaaW.PrintWords Go.Proofs.YtnlpckkaddpieaaW.PrintLast Go.Proofs.YtnlpckkaddpieaaW.PrintMore
variable {H : Type} {enc : TypeId × Value → H}
set_option maxHeartbeats 1000000 in
set_option maxRecDepth 100000 in
theorem long (Ab : Option Addr) (n cb : Nat) (w : World) (hl : n > 200) :
    Calls Try.prog 9 #[.slice Ab n cb] w fun e w' => e = .returned (.bool true) ∧ Below w.heap.size w w' := by
  have c1 : decide ((200 : Int) < (n : Int)) = true := decide_eq_true (by omega)
  have c2 : decide (200 < n) = true := decide_eq_true (by omega)
  clear hl
  go_enter Try.func9, Try.ntmps9
  go_wp2_with fail
  refine (tricklelaw03_wakes.calls true _ rfl).mono ?_
  rintro e w1 ⟨rfl, hb1⟩
  have B1 := Aside0.mk hb1
  clear hb1
  go_wp2
  go_ret
  exact ⟨rfl, B1.out⟩
set_option maxHeartbeats 1000000 in
set_option maxRecDepth 100000 in
theorem none_ (Ab : Option Addr) (cb : Nat) (w : World) :
    Calls Try.prog 9 #[.slice Ab 0 cb] w fun e w' => e = .returned (.bool true) ∧ Below w.heap.size w w' := by
  go_enter Try.func9, Try.ntmps9
  go_wp2_with fail
  refine (tricklelaw03_wakes.calls true _ rfl).mono ?_
  rintro e w1 ⟨rfl, hb1⟩
  have B1 := Aside0.mk hb1
  clear hb1
  go_wp2
  go_ret
  exact ⟨rfl, B1.out⟩
theorem walk (W : World) (base : Nat) (v0 : Value) (d0 : DataW H) (p0 : List MemPlace) (o0 : Value.okWide Try.prog W .any base 22 v0) (h0 : DataW.Trod enc Try.prog W 0 (fun _ => true) true 22 v0 d0 p0) :
    Calls Try.prog 9 #[v0] W fun e w' => e = .returned (.bool true) ∧ Below W.heap.size W w' := by
  obtain ⟨a, cap, xs, rfl, hcap, hC, hx⟩ := Open.rows_of (Kd.int .u8) (fun y => 0 ≤ y ∧ y ≤ 255) Try.underlying22 (by kernel_rfl) (fun fuel cs y hl h =>
    match cs, hl with
    | [x0], _ => by
      obtain ⟨n, rfl, hn⟩ := Open.int_leaf Try.underlying5 h
      exact ⟨n, rfl, Open.u8_bd hn⟩) o0 h0
  by_cases hl : xs.length > 200
  · exact long a xs.length cap W hl
  by_cases h0 : xs.length = 0
  · rw [h0]
    exact none_ a cap W
  · exact Nal.calls a cap xs W hC hcap hx (by omega) (by omega)
end Go.Proofs.Ytnlpckkaddpieaa.NalOut
