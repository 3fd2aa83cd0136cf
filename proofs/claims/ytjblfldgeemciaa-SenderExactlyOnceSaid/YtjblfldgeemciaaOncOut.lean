/-
  SenderExactlyOnce: whatever the window, the messages and the steps.
-/
import Derived.Test.YtjblfldgeemciaaOncLaw
set_option linter.unusedVariables false
namespace Go.Proofs.Ytjblfldgeemciaa.OncOut
open Go.RowKit Go.ChangeShapes Go.WideShapes Go.ChangeAt Go.Proofs.YtjblfldgeemciaaW.PrintWords Go.Proofs.Ytjblfldgeemciaa.Pr Go.Proofs.Ytjblfldgeemciaa.Sd Go.Proofs.Ytjblfldgeemciaa.OncLaw
variable {H : Type} {enc : TypeId × Value → H}
theorem walk (W : World) (base : Nat) (v0 : Value) (d0 : DataW H) (p0 : List MemPlace) (v1 : Value) (d1 : DataW H) (p1 : List MemPlace) (v2 : Value) (d2 : DataW H) (p2 : List MemPlace) (o0 : Value.okWide Try.prog W .any base 3 v0) (h0 : DataW.Trod enc Try.prog W 0 (fun _ => true) true 3 v0 d0 p0) (o1 : Value.okWide Try.prog W .any base 44 v1) (h1 : DataW.Trod enc Try.prog W 0 (fun _ => true) true 44 v1 d1 p1) (o2 : Value.okWide Try.prog W .any base 58 v2) (h2 : DataW.Trod enc Try.prog W 0 (fun _ => true) true 58 v2 d2 p2) :
    Calls Try.prog 9 #[v0, v1, v2] W fun e w' => e = .returned (.bool true) ∧ Below W.heap.size W w' := by
  obtain ⟨win, rfl⟩ := okWide_int Try.underlying3 o0
  obtain ⟨A, ca, l, rfl, hca, hC, hlx⟩ := Open.open_words o1 h1
  obtain ⟨A2, c2, xs, rfl, hca2, hC2, hx⟩ := Stp.open_steps o2 h2
  by_cases hg : good win 5
  · by_cases h3 : l.length > 60
    · exact out_long win A _ ca A2 _ c2 W hg (.inl h3)
    · by_cases h4 : xs.length > 300
      · exact out_long win A _ ca A2 _ c2 W hg (.inr ⟨h3, h4⟩)
      · exact calls_in win A ca l A2 c2 xs W hg hca hC hlx hC2 hx (by omega) (by omega)
  · exact out_bad win A _ ca A2 _ c2 W hg
end Go.Proofs.Ytjblfldgeemciaa.OncOut
