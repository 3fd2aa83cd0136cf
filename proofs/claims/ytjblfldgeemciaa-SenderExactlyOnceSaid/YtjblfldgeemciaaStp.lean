/-
  The steps of SenderExactlyOnce: slices of three bytes each, opened.
-/
import Derived.Test.YtjblfldgeemciaaOpen
namespace Go.Proofs.Ytjblfldgeemciaa.Stp
open Go.Deep Go.Proofs.Ytjblfldgeemciaa.Pr Go.Proofs.Ytjblfldgeemciaa.Open Go.RowKit Go.ChangeShapes Go.WideShapes Go.ChangeAt Go.Proofs.YtjblfldgeemciaaW.PrintWords
variable {H : Type} {enc : TypeId × Value → H} {w : World} {base : Nat} {spare : Nat → Bool} {held : Bool}
/-- A step: its kind, its place, its time. -/
abbrev kS : Kd (Int × Int × Int) := Kd.pair (Kd.int .u8) (Kd.pair (Kd.int .u8) (Kd.int .u8))
def SStep (x : Int × Int × Int) : Prop := (0 ≤ x.1 ∧ x.1 ≤ 255) ∧ (0 ≤ x.2.1 ∧ x.2.1 ≤ 255) ∧ (0 ≤ x.2.2 ∧ x.2.2 ≤ 255)
theorem kS_mk (w : World) (x : Int × Int × Int) : kS.K w x [.int .u8 x.1, .int .u8 x.2.1, .int .u8 x.2.2] := ⟨[.int .u8 x.1], [.int .u8 x.2.1, .int .u8 x.2.2], rfl, rfl, ⟨[.int .u8 x.2.1], [.int .u8 x.2.2], rfl, rfl, rfl⟩⟩
theorem kS_open {w : World} {x : Int × Int × Int} {cs : List Value} (h : kS.K w x cs) : cs = [.int .u8 x.1, .int .u8 x.2.1, .int .u8 x.2.2] := by
  obtain ⟨q1, q2, rfl, h1, ⟨q3, q4, rfl, h3, h4⟩⟩ := h
  obtain rfl : q1 = [.int .u8 x.1] := h1
  obtain rfl : q3 = [.int .u8 x.2.1] := h3
  obtain rfl : q4 = [.int .u8 x.2.2] := h4
  rfl
theorem trod_t3 {P : Program} {t : TypeId} {f0 f1 f2 : Field} {fuel : Nat} {cs : List Value} {x : DataW H × List MemPlace} (ht : P.underlying t = some (.struct #[f0, f1, f2])) (h : DataW.trod enc P w base spare held fuel t cs = some x) :
    ∃ y0 y1 y2 n, DataW.trod enc P w base spare held n f0.type ((cs.drop f0.offset).take (P.cellsOf f0.type)) = some y0 ∧
      DataW.trod enc P w base spare held n f1.type ((cs.drop f1.offset).take (P.cellsOf f1.type)) = some y1 ∧ DataW.trod enc P w base spare held n f2.type ((cs.drop f2.offset).take (P.cellsOf f2.type)) = some y2 := by
  obtain ⟨xs, n, _, rfl, hl, hlen, hf⟩ := DataW.trod_struct ht h
  match xs, hlen with
  | [y0, y1, y2], _ => exact ⟨y0, y1, y2, n, by simpa using hf 0 f0 rfl, by simpa using hf 1 f1 rfl, by simpa using hf 2 f2 rfl⟩
theorem step_leaf {fuel : Nat} {cs : List Value} {y : DataW H × List MemPlace} (hl : cs.length = 3) (h : DataW.trod enc Try.prog w base spare held fuel 60 cs = some y) : ∃ x : Int × Int × Int, kS.K w x cs ∧ SStep x :=
  match cs, hl with
  | [x0, x1, x2], _ => by
    have hz : Try.prog.cellsOf 5 = 1 := by kernel_rfl
    obtain ⟨y0, y1, y2, n, h0, h1, h2⟩ := trod_t3 Try.underlying60 h
    simp only [hz] at h0 h1 h2
    simp at h0 h1 h2
    obtain ⟨a, rfl, ha⟩ := int_leaf Try.underlying5 h0
    obtain ⟨b, rfl, hb⟩ := int_leaf Try.underlying5 h1
    obtain ⟨c, rfl, hc⟩ := int_leaf Try.underlying5 h2
    exact ⟨(a, b, c), kS_mk w _, u8_bd ha, u8_bd hb, u8_bd hc⟩
theorem open_steps {v : Value} {dd : DataW H} {p : List MemPlace} {b0 : Nat} {r : Reach} (o : Value.okWide Try.prog w r b0 58 v) (h : DataW.Trod enc Try.prog w base spare held 58 v dd p) : ∃ (a : Option Addr) (cap : Nat) (xs : List (Int × Int × Int)), v = .slice a xs.length cap ∧ xs.length ≤ cap ∧ kS.C w a xs.length xs ∧ ∀ x ∈ xs, SStep x :=
  rows_of kS SStep Try.underlying58 (by kernel_rfl) (fun fuel cs y hl h => step_leaf hl h) o h
end Go.Proofs.Ytjblfldgeemciaa.Stp
