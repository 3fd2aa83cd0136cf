/-
  ExpiryFresh, ExpiryDeadline: whatever the value, the current time and the limits.
-/
import Derived.Test.YtgefhejpaojhbaaPlainP
import Derived.Test.YtgefhejpaojhbaaOpen
namespace Go.Proofs.Ytgefhejpaojhbaa.LawsP
open Go.RowKit Go.ChangeShapes Go.WideShapes Go.ChangeAt Go.Proofs.Ytgefhejpaojhbaa.Pr Go.Proofs.Ytgefhejpaojhbaa.Plain Go.Proofs.Ytgefhejpaojhbaa.Open Go.Proofs.YtgefhejpaojhbaaW.PrintWords
variable {H : Type} {enc : TypeId × Value → H}
theorem purge_walk (W : World) (base : Nat) (v0 : Value) (d0 : DataW H) (p0 : List MemPlace) (v1 : Value) (d1 : DataW H) (p1 : List MemPlace) (v2 : Value) (d2 : DataW H) (p2 : List MemPlace) (o0 : Value.okWide Try.prog W .any base 61 v0) (h0 : DataW.Trod enc Try.prog W 0 (fun _ => true) true 61 v0 d0 p0) (o1 : Value.okWide Try.prog W .any base 50 v1) (h1 : DataW.Trod enc Try.prog W 0 (fun _ => true) true 50 v1 d1 p1) (o2 : Value.okWide Try.prog W .any base 54 v2) (h2 : DataW.Trod enc Try.prog W 0 (fun _ => true) true 54 v2 d2 p2) :
    Calls Try.prog 7 #[v0, v1, v2] W fun e w' => e = .returned (.bool true) ∧ Below W.heap.size W w' := by
  obtain ⟨a, cap, xs, rfl, hc, hC, _⟩ := rows_of k49 (fun _ => True) Try.underlying61 (by kernel_rfl) (fun fuel cs y hl h => by
    obtain ⟨a, b, c, d, rfl, _⟩ := stamped_leaf (.inl rfl) hl h
    exact ⟨(⟨a, (⟨b, c⟩ : S28), d⟩ : S49), k49_mk _ _, trivial⟩) o0 h0
  obtain ⟨x, y, z, rfl, _⟩ := open_now o1 h1
  obtain ⟨m, n, rfl, _⟩ := open_pair o2 h2
  exact tricklelaw41_ExpiryPurge.calls 70 a cap xs x y z m n true W hC hc (law_purge ..)
end Go.Proofs.Ytgefhejpaojhbaa.LawsP
