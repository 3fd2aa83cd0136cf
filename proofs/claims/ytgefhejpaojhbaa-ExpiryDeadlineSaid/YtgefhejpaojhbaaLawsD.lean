/-
  ExpiryFresh, ExpiryDeadline: whatever the value, the current time and the limits.
-/
import Derived.Test.YtgefhejpaojhbaaPlainD
import Derived.Test.YtgefhejpaojhbaaOpen
namespace Go.Proofs.Ytgefhejpaojhbaa.LawsD
open Go.RowKit Go.ChangeShapes Go.WideShapes Go.ChangeAt Go.Proofs.Ytgefhejpaojhbaa.Pr Go.Proofs.Ytgefhejpaojhbaa.Plain Go.Proofs.Ytgefhejpaojhbaa.Open Go.Proofs.YtgefhejpaojhbaaW.PrintWords
variable {H : Type} {enc : TypeId × Value → H}
theorem deadline_walk (W : World) (base : Nat) (v0 : Value) (d0 : DataW H) (p0 : List MemPlace) (v1 : Value) (d1 : DataW H) (p1 : List MemPlace) (v2 : Value) (d2 : DataW H) (p2 : List MemPlace) (o0 : Value.okWide Try.prog W .any base 49 v0) (h0 : DataW.Trod enc Try.prog W 0 (fun _ => true) true 49 v0 d0 p0) (o1 : Value.okWide Try.prog W .any base 50 v1) (h1 : DataW.Trod enc Try.prog W 0 (fun _ => true) true 50 v1 d1 p1) (o2 : Value.okWide Try.prog W .any base 54 v2) (h2 : DataW.Trod enc Try.prog W 0 (fun _ => true) true 54 v2 d2 p2) :
    Calls Try.prog 5 #[v0, v1, v2] W fun e w' => e = .returned (.bool true) ∧ Below W.heap.size W w' := by
  obtain ⟨a, b, c, d, rfl, _⟩ := open_stamped o0 h0
  obtain ⟨x, y, z, rfl, _⟩ := open_now o1 h1
  obtain ⟨m, n, rfl, _⟩ := open_pair o2 h2
  exact tricklelaw41_ExpiryDeadline.calls 2 a b c d x y z m n true W (law_deadline ..)
end Go.Proofs.Ytgefhejpaojhbaa.LawsD
