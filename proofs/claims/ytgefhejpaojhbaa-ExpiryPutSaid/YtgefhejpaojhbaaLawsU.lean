/-
  ExpiryPut: whatever the value, the current time and the bytes.
-/
import Derived.Test.YtgefhejpaojhbaaPlainPut2
import Derived.Test.YtgefhejpaojhbaaOpen
namespace Go.Proofs.Ytgefhejpaojhbaa.LawsU
open Go.RowKit Go.ChangeShapes Go.WideShapes Go.ChangeAt Go.Proofs.Ytgefhejpaojhbaa.Pr Go.Proofs.Ytgefhejpaojhbaa.Plain Go.Proofs.Ytgefhejpaojhbaa.Open Go.Proofs.YtgefhejpaojhbaaW.PrintWords
variable {H : Type} {enc : TypeId × Value → H}
theorem u8_of {n : Int} (h : (Lit.int .u8 n).wf = true) : 0 ≤ n ∧ n ≤ 255 := by
  simp [Lit.wf, IntKind.min, IntKind.max, IntKind.signed, IntKind.bits] at h
  omega
theorem i16_of {n : Int} (h : (Lit.int .i16 n).wf = true) : -32768 ≤ n ∧ n ≤ 32767 := by
  simp [Lit.wf, IntKind.min, IntKind.max, IntKind.signed, IntKind.bits] at h
  omega
theorem put_walk (W : World) (base : Nat) (v0 : Value) (d0 : DataW H) (p0 : List MemPlace) (v1 : Value) (d1 : DataW H) (p1 : List MemPlace) (v2 : Value) (d2 : DataW H) (p2 : List MemPlace) (o0 : Value.okWide Try.prog W .any base 49 v0) (h0 : DataW.Trod enc Try.prog W 0 (fun _ => true) true 49 v0 d0 p0) (o1 : Value.okWide Try.prog W .any base 50 v1) (h1 : DataW.Trod enc Try.prog W 0 (fun _ => true) true 50 v1 d1 p1) (o2 : Value.okWide Try.prog W .any base 71 v2) (h2 : DataW.Trod enc Try.prog W 0 (fun _ => true) true 71 v2 d2 p2) :
    Calls Try.prog 8 #[v0, v1, v2] W fun e w' => e = .returned (.bool true) ∧ Below W.heap.size W w' := by
  obtain ⟨a, b, c, d, rfl, ha, _⟩ := open_stamped o0 h0
  obtain ⟨x, y, z, rfl, _⟩ := open_now o1 h1
  obtain ⟨b0, b1, b2, b3, b4, b5, b6, b7, rfl, g0, g1, g2, g3, g4, g5, g6, g7⟩ := open_eight o2 h2
  have ka := i16_of ha
  have k0 := u8_of g0
  have k1 := u8_of g1
  have k2 := u8_of g2
  have k3 := u8_of g3
  have k4 := u8_of g4
  have k5 := u8_of g5
  have k6 := u8_of g6
  have k7 := u8_of g7
  refine tricklelaw41_ExpiryPut.calls 1 a b c d x y z b0 b1 b2 b3 b4 b5 b6 b7 true W (put_same a b c d ka.1 ka.2) (get_same b0 b1 b2 b3 b4 b5 b6 b7 k0 k1 k2 k3 k4 k5 k6 k7) ?_ (law_put a b c d x y z b0 b1 b2 b3 b4 b5 b6 b7 ka.1 ka.2 k0 k1 k2 k3 k4 k5 k6 k7)
  intro g1 g2 g3 g4 hg
  rw [get_tells b0 b1 b2 b3 b4 b5 b6 b7 k0 k1 k2 k3 k4 k5 k6 k7] at hg
  simp only [Option.some.injEq, Prod.mk.injEq] at hg
  obtain ⟨rfl, rfl, rfl, rfl⟩ := hg
  exact put_get b0 b1 b2 b3 b4 b5 b6 b7 k0 k1 k2 k3 k4 k5 k6 k7
end Go.Proofs.Ytgefhejpaojhbaa.LawsU
