/-
  ExpiryFresh, ExpiryDeadline: whatever the value, the current time and the limits.
-/
import Derived.Test.YtgefhejpaojhbaaPlainT
import Derived.Test.YtgefhejpaojhbaaOpen
namespace Go.Proofs.Ytgefhejpaojhbaa.LawsT
open Go.RowKit Go.ChangeShapes Go.WideShapes Go.ChangeAt Go.Proofs.Ytgefhejpaojhbaa.Pr Go.Proofs.Ytgefhejpaojhbaa.Plain Go.Proofs.Ytgefhejpaojhbaa.Open Go.Proofs.YtgefhejpaojhbaaW.PrintWords
variable {H : Type} {enc : TypeId × Value → H}
theorem together_walk (W : World) (base : Nat) (v0 : Value) (d0 : DataW H) (p0 : List MemPlace) (v1 : Value) (d1 : DataW H) (p1 : List MemPlace) (o0 : Value.okWide Try.prog W .any base 61 v0) (h0 : DataW.Trod enc Try.prog W 0 (fun _ => true) true 61 v0 d0 p0) (o1 : Value.okWide Try.prog W .any base 2 v1) (h1 : DataW.Trod enc Try.prog W 0 (fun _ => true) true 2 v1 d1 p1) :
    Calls Try.prog 6 #[v0, v1] W fun e w' => e = .returned (.bool true) ∧ Below W.heap.size W w' := by
  obtain ⟨a, cap, xs, rfl, hc, hC, _⟩ := rows_of k49 (fun _ => True) Try.underlying61 (by kernel_rfl) (fun fuel cs y hl h => by
    obtain ⟨a, b, c, d, rfl, _⟩ := stamped_leaf (.inl rfl) hl h
    exact ⟨(⟨a, (⟨b, c⟩ : S28), d⟩ : S49), k49_mk _ _, trivial⟩) o0 h0
  obtain ⟨n, rfl, rfl, rfl, _⟩ := open_int Try.underlying2 o1 h1
  exact tricklelaw41_ExpiryTogether.calls 5000 a cap xs n true W hC hc (law_together ..)
end Go.Proofs.Ytgefhejpaojhbaa.LawsT
