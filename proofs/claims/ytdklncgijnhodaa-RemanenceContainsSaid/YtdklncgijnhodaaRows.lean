/-
  No cell of these rows narrows 'for every input' (looked for: loops, veiled, ifaces, maps, wideKeys, modest, calm, conditions, laid).
  DERIVED. THE GIVEN ROWS OF THIS SEAT. 7 by the template 'for every input the law returns true; each argument reads behind the call as it read before'; 0 by the template 'total and deterministic' (their statements: YtdklncgijnhodaaTotals.lean).
  GIVEN WITH THE SEED: the statements are not yours to turn. If you find one false, say at which input.
  Laid BY PROGRAM, IN A SANDBOX (cutbox-rows.mjs): the forced cells as the released guide's own fill.sh prints them over the translation d68124e958d855d0… (all of the seat's roots in one cut). By AI agents, Wed Nov 11 2026. No macro, syntax, notation, axiom, sorry.
-/
import Derived.Test.YtdklncgijnhodaaChecked
import GoSem.Claim
import GoSem.ClaimJoined
import GoSem.ClaimMapViews
import Derived.JoinedTies
import Derived.KernelRfl
namespace Go.Proofs.Ytdklncgijnhodaa
/- THE CELL 'sum', in the pinned program and in every row, IS THE sha256 OF THE DUMP (.gsa) THAT YtdklncgijnhodaaProg.lean LOADS. Nothing in Lean hashes anything: it is a label: what it is worth is what the hold of that sum in a sandbox is worth. -/
noncomputable def Try.pinned : Pinned := { name := "ytdklncgijnhodaa", sum := "d68124e958d855d04bd997f2e9a3c90926b365c5c3639c6a79385751d33f8f6a", checked := Try.checked }
namespace Rows
def none {H : Type} : Left H := { results := [], args := [] }

/-- 'tricklelaw09.RemanenceMeasure': WHATEVER THE INPUT: true; the input reads as it did. -/
def remanenceMeasureSpec : ChangeSpec := { name := "remanenceMeasure", fn := fun _ => fun
  | [d1, d2] => { results := [.lit (.bool true)], args := [d1, d2] }
  | _ => none }
def remanenceMeasureRow : OpenClaim := { program := "ytdklncgijnhodaa", sum := "d68124e958d855d04bd997f2e9a3c90926b365c5c3639c6a79385751d33f8f6a", func := "trickle/tricklelaw09.RemanenceMeasure", spec := "remanenceMeasure", apart := false }
def RemanenceMeasureSaid : Prop := remanenceMeasureRow.holds Try.pinned (OpenSpec.ofChange remanenceMeasureSpec)

/-- ITS FALSE NEIGHBOUR: 'it returns false'. Refute it at one input. -/
def remanenceMeasureWrong : ChangeSpec := { name := "remanenceMeasure", fn := fun _ => fun
  | [d1, d2] => { results := [.lit (.bool false)], args := [d1, d2] }
  | _ => none }
def RemanenceMeasureWrongFalsely : Prop := remanenceMeasureRow.holds Try.pinned (OpenSpec.ofChange remanenceMeasureWrong)

/-- 'tricklelaw09.RemanenceClock': WHATEVER THE INPUT: true; the input reads as it did. -/
def remanenceClockSpec : ChangeSpec := { name := "remanenceClock", fn := fun _ => fun
  | [d] => { results := [.lit (.bool true)], args := [d] }
  | _ => none }
def remanenceClockRow : OpenClaim := { program := "ytdklncgijnhodaa", sum := "d68124e958d855d04bd997f2e9a3c90926b365c5c3639c6a79385751d33f8f6a", func := "trickle/tricklelaw09.RemanenceClock", spec := "remanenceClock", apart := false }
def RemanenceClockSaid : Prop := remanenceClockRow.holds Try.pinned (OpenSpec.ofChange remanenceClockSpec)

/-- ITS FALSE NEIGHBOUR: 'it returns false'. Refute it at one input. -/
def remanenceClockWrong : ChangeSpec := { name := "remanenceClock", fn := fun _ => fun
  | [d] => { results := [.lit (.bool false)], args := [d] }
  | _ => none }
def RemanenceClockWrongFalsely : Prop := remanenceClockRow.holds Try.pinned (OpenSpec.ofChange remanenceClockWrong)

/-- 'tricklelaw09.RemanenceAge': WHATEVER THE INPUT: true; the input reads as it did. -/
def remanenceAgeSpec : ChangeSpec := { name := "remanenceAge", fn := fun _ => fun
  | [d1, d2] => { results := [.lit (.bool true)], args := [d1, d2] }
  | _ => none }
def remanenceAgeRow : OpenClaim := { program := "ytdklncgijnhodaa", sum := "d68124e958d855d04bd997f2e9a3c90926b365c5c3639c6a79385751d33f8f6a", func := "trickle/tricklelaw09.RemanenceAge", spec := "remanenceAge", apart := false }
def RemanenceAgeSaid : Prop := remanenceAgeRow.holds Try.pinned (OpenSpec.ofChange remanenceAgeSpec)

/-- ITS FALSE NEIGHBOUR: 'it returns false'. Refute it at one input. -/
def remanenceAgeWrong : ChangeSpec := { name := "remanenceAge", fn := fun _ => fun
  | [d1, d2] => { results := [.lit (.bool false)], args := [d1, d2] }
  | _ => none }
def RemanenceAgeWrongFalsely : Prop := remanenceAgeRow.holds Try.pinned (OpenSpec.ofChange remanenceAgeWrong)

/-- 'tricklelaw09.RemanenceContains': WHATEVER THE INPUT: true; the input reads as it did. -/
def remanenceContainsSpec : ChangeSpec := { name := "remanenceContains", fn := fun _ => fun
  | [d1, d2, d3] => { results := [.lit (.bool true)], args := [d1, d2, d3] }
  | _ => none }
def remanenceContainsRow : OpenClaim := { program := "ytdklncgijnhodaa", sum := "d68124e958d855d04bd997f2e9a3c90926b365c5c3639c6a79385751d33f8f6a", func := "trickle/tricklelaw09.RemanenceContains", spec := "remanenceContains", apart := false }
def RemanenceContainsSaid : Prop := remanenceContainsRow.holds Try.pinned (OpenSpec.ofChange remanenceContainsSpec)

/-- ITS FALSE NEIGHBOUR: 'it returns false'. Refute it at one input. -/
def remanenceContainsWrong : ChangeSpec := { name := "remanenceContains", fn := fun _ => fun
  | [d1, d2, d3] => { results := [.lit (.bool false)], args := [d1, d2, d3] }
  | _ => none }
def RemanenceContainsWrongFalsely : Prop := remanenceContainsRow.holds Try.pinned (OpenSpec.ofChange remanenceContainsWrong)

/-- 'tricklelaw09.RemanenceSteady': WHATEVER THE INPUT: true; the input reads as it did. -/
def remanenceSteadySpec : ChangeSpec := { name := "remanenceSteady", fn := fun _ => fun
  | [d] => { results := [.lit (.bool true)], args := [d] }
  | _ => none }
def remanenceSteadyRow : OpenClaim := { program := "ytdklncgijnhodaa", sum := "d68124e958d855d04bd997f2e9a3c90926b365c5c3639c6a79385751d33f8f6a", func := "trickle/tricklelaw09.RemanenceSteady", spec := "remanenceSteady", apart := false }
def RemanenceSteadySaid : Prop := remanenceSteadyRow.holds Try.pinned (OpenSpec.ofChange remanenceSteadySpec)

/-- ITS FALSE NEIGHBOUR: 'it returns false'. Refute it at one input. -/
def remanenceSteadyWrong : ChangeSpec := { name := "remanenceSteady", fn := fun _ => fun
  | [d] => { results := [.lit (.bool false)], args := [d] }
  | _ => none }
def RemanenceSteadyWrongFalsely : Prop := remanenceSteadyRow.holds Try.pinned (OpenSpec.ofChange remanenceSteadyWrong)

/-- 'tricklelaw09.RemanenceOrder': WHATEVER THE INPUT: true; the input reads as it did. -/
def remanenceOrderSpec : ChangeSpec := { name := "remanenceOrder", fn := fun _ => fun
  | [d] => { results := [.lit (.bool true)], args := [d] }
  | _ => none }
def remanenceOrderRow : OpenClaim := { program := "ytdklncgijnhodaa", sum := "d68124e958d855d04bd997f2e9a3c90926b365c5c3639c6a79385751d33f8f6a", func := "trickle/tricklelaw09.RemanenceOrder", spec := "remanenceOrder", apart := false }
def RemanenceOrderSaid : Prop := remanenceOrderRow.holds Try.pinned (OpenSpec.ofChange remanenceOrderSpec)

/-- ITS FALSE NEIGHBOUR: 'it returns false'. Refute it at one input. -/
def remanenceOrderWrong : ChangeSpec := { name := "remanenceOrder", fn := fun _ => fun
  | [d] => { results := [.lit (.bool false)], args := [d] }
  | _ => none }
def RemanenceOrderWrongFalsely : Prop := remanenceOrderRow.holds Try.pinned (OpenSpec.ofChange remanenceOrderWrong)

/-- 'tricklelaw09.RemanenceRestore': WHATEVER THE INPUT: true; the input reads as it did. -/
def remanenceRestoreSpec : ChangeSpec := { name := "remanenceRestore", fn := fun _ => fun
  | [d1, d2, d3] => { results := [.lit (.bool true)], args := [d1, d2, d3] }
  | _ => none }
def remanenceRestoreRow : OpenClaim := { program := "ytdklncgijnhodaa", sum := "d68124e958d855d04bd997f2e9a3c90926b365c5c3639c6a79385751d33f8f6a", func := "trickle/tricklelaw09.RemanenceRestore", spec := "remanenceRestore", apart := false }
def RemanenceRestoreSaid : Prop := remanenceRestoreRow.holds Try.pinned (OpenSpec.ofChange remanenceRestoreSpec)

/-- ITS FALSE NEIGHBOUR: 'it returns false'. Refute it at one input. -/
def remanenceRestoreWrong : ChangeSpec := { name := "remanenceRestore", fn := fun _ => fun
  | [d1, d2, d3] => { results := [.lit (.bool false)], args := [d1, d2, d3] }
  | _ => none }
def RemanenceRestoreWrongFalsely : Prop := remanenceRestoreRow.holds Try.pinned (OpenSpec.ofChange remanenceRestoreWrong)

/- THE SECOND FORM. 'bulk': how many values and letters a reading holds, each counted each time it is reached (what is shared counts as often as it is met; a slice's spare places count too). A statement '..UptoSaid' is the law's where the arguments, and the package variables that the reading takes, are together of bulk at most 1048576: NARROWER than '..Said'. Prove '..Said' where nothing that the law and all that it calls make is longer than what came in: it says more and counts as full. Else prove '..UptoSaid'. A law counts once. -/
mutual
def uptoBulk {H : Type} : DataW H → Nat
  | .lit (.string bytes) => bytes.length + 1
  | .lit _ => 1
  | .nil => 1
  | .ptr d => uptoBulk d + 1
  | .slice elems spare => uptoBulkAll elems + uptoBulkAll spare + 1
  | .agg parts => uptoBulkAll parts + 1
  | .iface _ d => uptoBulk d + 1
  | .map entries => uptoBulkEntries entries + 1
  | .held _ => 1
def uptoBulkAll {H : Type} : List (DataW H) → Nat
  | [] => 0
  | d :: r => uptoBulk d + uptoBulkAll r
def uptoBulkEntries {H : Type} : List (Lit × DataW H) → Nat
  | [] => 0
  | x :: r => uptoBulkEntry x + uptoBulkEntries r
def uptoBulkEntry {H : Type} : Lit × DataW H → Nat
  | (.string bytes, d) => bytes.length + uptoBulk d + 1
  | (_, d) => uptoBulk d + 1
 end
def uptoSmall : (H : Type) → List (DataW H) → Bool := fun _ ds => decide (uptoBulkAll ds ≤ 1048576)
def OpenSpec.upto (s : _root_.Go.ChangeSpec) : _root_.Go.OpenSpec := { _root_.Go.OpenSpec.ofChange s with cond := some uptoSmall }

/-- 'tricklelaw09.RemanenceMeasure', WHERE WHAT IT READS IS OF BULK AT MOST 1048576: true; the input reads as it did. -/
def remanenceMeasureUptoRow : OpenClaim := { program := "ytdklncgijnhodaa", sum := "d68124e958d855d04bd997f2e9a3c90926b365c5c3639c6a79385751d33f8f6a", func := "trickle/tricklelaw09.RemanenceMeasure", spec := "remanenceMeasure", apart := false, narrowed := true }
def RemanenceMeasureUptoSaid : Prop := remanenceMeasureUptoRow.holds Try.pinned (OpenSpec.upto remanenceMeasureSpec)

/-- 'tricklelaw09.RemanenceClock', WHERE WHAT IT READS IS OF BULK AT MOST 1048576: true; the input reads as it did. -/
def remanenceClockUptoRow : OpenClaim := { program := "ytdklncgijnhodaa", sum := "d68124e958d855d04bd997f2e9a3c90926b365c5c3639c6a79385751d33f8f6a", func := "trickle/tricklelaw09.RemanenceClock", spec := "remanenceClock", apart := false, narrowed := true }
def RemanenceClockUptoSaid : Prop := remanenceClockUptoRow.holds Try.pinned (OpenSpec.upto remanenceClockSpec)

/-- 'tricklelaw09.RemanenceAge', WHERE WHAT IT READS IS OF BULK AT MOST 1048576: true; the input reads as it did. -/
def remanenceAgeUptoRow : OpenClaim := { program := "ytdklncgijnhodaa", sum := "d68124e958d855d04bd997f2e9a3c90926b365c5c3639c6a79385751d33f8f6a", func := "trickle/tricklelaw09.RemanenceAge", spec := "remanenceAge", apart := false, narrowed := true }
def RemanenceAgeUptoSaid : Prop := remanenceAgeUptoRow.holds Try.pinned (OpenSpec.upto remanenceAgeSpec)

/-- 'tricklelaw09.RemanenceContains', WHERE WHAT IT READS IS OF BULK AT MOST 1048576: true; the input reads as it did. -/
def remanenceContainsUptoRow : OpenClaim := { program := "ytdklncgijnhodaa", sum := "d68124e958d855d04bd997f2e9a3c90926b365c5c3639c6a79385751d33f8f6a", func := "trickle/tricklelaw09.RemanenceContains", spec := "remanenceContains", apart := false, narrowed := true }
def RemanenceContainsUptoSaid : Prop := remanenceContainsUptoRow.holds Try.pinned (OpenSpec.upto remanenceContainsSpec)

/-- 'tricklelaw09.RemanenceSteady', WHERE WHAT IT READS IS OF BULK AT MOST 1048576: true; the input reads as it did. -/
def remanenceSteadyUptoRow : OpenClaim := { program := "ytdklncgijnhodaa", sum := "d68124e958d855d04bd997f2e9a3c90926b365c5c3639c6a79385751d33f8f6a", func := "trickle/tricklelaw09.RemanenceSteady", spec := "remanenceSteady", apart := false, narrowed := true }
def RemanenceSteadyUptoSaid : Prop := remanenceSteadyUptoRow.holds Try.pinned (OpenSpec.upto remanenceSteadySpec)

/-- 'tricklelaw09.RemanenceOrder', WHERE WHAT IT READS IS OF BULK AT MOST 1048576: true; the input reads as it did. -/
def remanenceOrderUptoRow : OpenClaim := { program := "ytdklncgijnhodaa", sum := "d68124e958d855d04bd997f2e9a3c90926b365c5c3639c6a79385751d33f8f6a", func := "trickle/tricklelaw09.RemanenceOrder", spec := "remanenceOrder", apart := false, narrowed := true }
def RemanenceOrderUptoSaid : Prop := remanenceOrderUptoRow.holds Try.pinned (OpenSpec.upto remanenceOrderSpec)

/-- 'tricklelaw09.RemanenceRestore', WHERE WHAT IT READS IS OF BULK AT MOST 1048576: true; the input reads as it did. -/
def remanenceRestoreUptoRow : OpenClaim := { program := "ytdklncgijnhodaa", sum := "d68124e958d855d04bd997f2e9a3c90926b365c5c3639c6a79385751d33f8f6a", func := "trickle/tricklelaw09.RemanenceRestore", spec := "remanenceRestore", apart := false, narrowed := true }
def RemanenceRestoreUptoSaid : Prop := remanenceRestoreUptoRow.holds Try.pinned (OpenSpec.upto remanenceRestoreSpec)

end Rows
end Go.Proofs.Ytdklncgijnhodaa
