/-
  ExpirySound: whatever the configuration, the power failures and the limit.
-/
import Derived.Test.YtgefhejpaojhbaaSnd
import Derived.Test.YtgefhejpaojhbaaOpen
namespace Go.Proofs.Ytgefhejpaojhbaa.LawsS
open Go.RowKit Go.ChangeShapes Go.WideShapes Go.ChangeAt Go.Proofs.Ytgefhejpaojhbaa.Open Go.Proofs.YtgefhejpaojhbaaW.PrintWords
variable {H : Type} {enc : TypeId × Value → H}
theorem open_config {w : World} {base : Nat} {spare : Nat → Bool} {held : Bool} {v : Value} {dd : DataW H} {p : List MemPlace} {b0 : Nat} {r : Reach} (o : Value.okWide Try.prog w r b0 23 v) (h : DataW.Trod enc Try.prog w base spare held 23 v dd p) : ∃ b c, v = .agg #[.int .i64 b, .int .i64 c] := by
  obtain ⟨cs, rfl, hsz⟩ := okWide_struct Try.underlying23 o
  obtain ⟨fuel, hf⟩ := h
  have hl : cs.toList.length = 2 := by simpa using hsz.trans (by kernel_rfl)
  simp only [Value.cells] at hf
  have e : cs = cs.toList.toArray := by simp
  generalize cs.toList = L at *
  subst e
  match L, hl with
  | [x1, x2], _ =>
  have hz2 : Try.prog.cellsOf 2 = 1 := by kernel_rfl
  have hz3 : Try.prog.cellsOf 3 = 1 := by kernel_rfl
  obtain ⟨y3, y4, m, _, _, h3, h4⟩ := trod_struct2 Try.underlying23 hf
  simp only [hz2, hz3] at h3 h4
  simp at h3 h4
  obtain ⟨b, rfl, hb⟩ := int_leaf Try.underlying3 h3
  obtain ⟨c, rfl, hc⟩ := int_leaf Try.underlying2 h4
  exact ⟨b, c, rfl⟩
theorem power_leaf {w : World} {base : Nat} {spare : Nat → Bool} {held : Bool} {fuel : Nat} {cs : List Value} {y : DataW H × List MemPlace} (hl : cs.length = 2) (h : DataW.trod enc Try.prog w base spare held fuel 33 cs = some y) : ∃ a b, cs = [.int .u16 a, .int .u16 b] ∧ (0 ≤ a ∧ a ≤ 65535) ∧ (0 ≤ b ∧ b ≤ 65535) :=
  match cs, hl with
  | [x0, x1], _ => by
    have hz : Try.prog.cellsOf 31 = 1 := by kernel_rfl
    obtain ⟨y3, y4, m, _, _, h3, h4⟩ := trod_struct2 Try.underlying33 h
    simp only [hz] at h3 h4
    simp at h3 h4
    obtain ⟨a, rfl, ha⟩ := int_leaf Try.underlying31 h3
    obtain ⟨b, rfl, hb⟩ := int_leaf Try.underlying31 h4
    have e1 : IntKind.u16.min = 0 := by decide
    have e2 : IntKind.u16.max = 65535 := by decide
    simp only [Lit.wf, e1, e2, Bool.and_eq_true, decide_eq_true_eq] at ha hb
    exact ⟨a, b, rfl, ha, hb⟩
theorem sound_walk (W : World) (base : Nat) (v0 : Value) (d0 : DataW H) (p0 : List MemPlace) (v1 : Value) (d1 : DataW H) (p1 : List MemPlace) (v2 : Value) (d2 : DataW H) (p2 : List MemPlace) (o0 : Value.okWide Try.prog W .any base 23 v0) (h0 : DataW.Trod enc Try.prog W 0 (fun _ => true) true 23 v0 d0 p0) (o1 : Value.okWide Try.prog W .any base 24 v1) (h1 : DataW.Trod enc Try.prog W 0 (fun _ => true) true 24 v1 d1 p1) (o2 : Value.okWide Try.prog W .any base 2 v2) (h2 : DataW.Trod enc Try.prog W 0 (fun _ => true) true 2 v2 d2 p2) :
    Calls Try.prog 3 #[v0, v1, v2] W fun e w' => e = .returned (.bool true) ∧ Below W.heap.size W w' := by
  obtain ⟨x, y, rfl⟩ := open_config o0 h0
  obtain ⟨a, cap, xs, rfl, hc, hC, hx⟩ := rows_of (Kd.pair (Kd.int .u16) (Kd.int .u16)) (fun x => (0 ≤ x.1 ∧ x.1 ≤ 65535) ∧ (0 ≤ x.2 ∧ x.2 ≤ 65535)) Try.underlying24 (by kernel_rfl) (fun fuel cs y hl h => by
    obtain ⟨a, b, rfl, ha, hb⟩ := power_leaf hl h
    exact ⟨(a, b), ⟨[.int .u16 a], [.int .u16 b], rfl, rfl, rfl⟩, ha, hb⟩) o1 h1
  obtain ⟨m, rfl⟩ := okWide_int Try.underlying2 o2
  exact Snd.calls x y m a cap xs W hC hx
end Go.Proofs.Ytgefhejpaojhbaa.LawsS
