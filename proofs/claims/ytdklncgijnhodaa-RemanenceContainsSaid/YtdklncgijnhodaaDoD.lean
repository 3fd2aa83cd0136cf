/-
  One operation on a clock and on the reference: do answers true, and both have the same next state.
-/
import Derived.Test.YtdklncgijnhodaaDoPl
import Derived.Test.YtdklncgijnhodaaOpen
import Derived.Deep.RegionHeld3
import Derived.Deep.RegionWith
import Derived.Outline
set_option linter.unusedVariables false
namespace Go.Proofs.Ytdklncgijnhodaa.Do
open Go.RowKit Go.ChangeShapes Go.WideShapes Go.ChangeAt Go.Proofs.Ytdklncgijnhodaa.Pr Go.Proofs.Ytdklncgijnhodaa.Plain Go.Proofs.Ytdklncgijnhodaa.DoPl Go.Proofs.YtdklncgijnhodaaW.PrintWords Go.Proofs.YtdklncgijnhodaaW.PrintLast
def DoPost (w0 w : World) (g gm : Nat) (lo hi ep : Int) (e : Ending) (w' : World) : Prop :=
  ∃ lo' hi' ep', e = .returned (.bool true) ∧ IsS36 w0 w' g lo' hi' ep' ∧ w'.heap[gm]? = some (.cells #[.int .i64 lo', .int .i64 hi', .int .i64 ep'] 38 (0, 0)) ∧ Below w0.heap.size w0 w' ∧ Ste lo hi ep lo' hi' ep' ∧ ∀ i o, w.heap[i]? = some o → i ≠ g → i ≠ gm → w'.heap[i]? = some o
theorem keep_blk {w w1 : World} {g k : Nat} {o : Obj} (h : w.heap[k]? = some o) (hk : KeepBut w w1 g none) (hne : k ≠ g) : w1.heap[k]? = some o := (hk.2 k (blk_lt h) hne (by simp)).trans h
theorem far1 {w : World} {z i j : Nat} {o : Obj} {u : Value} (h : w.heap[i]? = some o) (hne : i ≠ z) : (w.setCell ⟨z, j, none⟩ u).heap[i]? = some o := (Below.heap_setCell w ⟨z, j, none⟩ u i hne).trans h
theorem is_below {w0 w w1 : World} {g : Nat} {a b c : Int} (h : IsS36 w0 w g a b c) (hb : Below w.heap.size w w1) : IsS36 w0 w1 g a b c := ⟨blk_below h.1 hb, h.2⟩
theorem is_far {w0 w : World} {g z i : Nat} {a b c : Int} {u : Value} (h : IsS36 w0 w g a b c) (hz : g ≠ z) : IsS36 w0 (w.setCell ⟨z, i, none⟩ u) g a b c := ⟨blk_far h.1 hz _, h.2⟩
section
variable {w w1 : World} {gm : Nat} {a b c : Value}
theorem c3 (h : w.heap[gm]? = some (.cells #[a, b, c] 38 (0, 0))) : w.cell? ⟨gm, 0, none⟩ = some a ∧ w.cell? ⟨gm, 1, none⟩ = some b ∧ w.cell? ⟨gm, 2, none⟩ = some c :=
  ⟨(blk_cell h 0).trans rfl, (blk_cell h 1).trans rfl, (blk_cell h 2).trans rfl⟩
theorem c3_keep {g : Nat} (h : w.cell? ⟨gm, 0, none⟩ = some a ∧ w.cell? ⟨gm, 1, none⟩ = some b ∧ w.cell? ⟨gm, 2, none⟩ = some c) (hB : w.heap[gm]? = some (.cells #[a, b, c] 38 (0, 0))) (hk : KeepBut w w1 g none) (hne : gm ≠ g) :
    w1.cell? ⟨gm, 0, none⟩ = some a ∧ w1.cell? ⟨gm, 1, none⟩ = some b ∧ w1.cell? ⟨gm, 2, none⟩ = some c := c3 (keep_blk hB hk hne)
end
end Go.Proofs.Ytdklncgijnhodaa.Do
