/-
  No cell of these rows narrows 'for every input' (looked for: loops, veiled, ifaces, maps, wideKeys, modest, calm, conditions, laid).
  DERIVED. THE GIVEN ROWS OF THIS SEAT. 6 by the template 'for every input the law returns true; each argument reads behind the call as it read before'; 0 by the template 'total and deterministic' (their statements: YtgefhejpaojhbaaTotals.lean).
  GIVEN WITH THE SEED: the statements are not yours to turn. If you find one false, say at which input.
  Laid BY PROGRAM, IN A SANDBOX (cutbox-rows.mjs): the forced cells as the released guide's own fill.sh prints them over the translation 9047420cabc188ef… (all of the seat's roots in one cut). By AI agents, Wed Nov 11 2026. No macro, syntax, notation, axiom, sorry.
-/
import Derived.Test.YtgefhejpaojhbaaChecked
import GoSem.Claim
import GoSem.ClaimJoined
import GoSem.ClaimMapViews
import Derived.JoinedTies
import Derived.KernelRfl
namespace Go.Proofs.Ytgefhejpaojhbaa
/- THE CELL 'sum', in the pinned program and in every row, IS THE sha256 OF THE DUMP (.gsa) THAT YtgefhejpaojhbaaProg.lean LOADS. Nothing in Lean hashes anything: it is a label: what it is worth is what the hold of that sum in a sandbox is worth. -/
noncomputable def Try.pinned : Pinned := { name := "ytgefhejpaojhbaa", sum := "9047420cabc188ef1554f647f87d6f1095e9238d1d6e49014c16c101cd1f036a", checked := Try.checked }
namespace Rows
def none {H : Type} : Left H := { results := [], args := [] }

/-- 'tricklelaw41.ExpirySound': WHATEVER THE INPUT: true; the input reads as it did. -/
def expirySoundSpec : ChangeSpec := { name := "expirySound", fn := fun _ => fun
  | [d1, d2, d3] => { results := [.lit (.bool true)], args := [d1, d2, d3] }
  | _ => none }
def expirySoundRow : OpenClaim := { program := "ytgefhejpaojhbaa", sum := "9047420cabc188ef1554f647f87d6f1095e9238d1d6e49014c16c101cd1f036a", func := "trickle/tricklelaw41.ExpirySound", spec := "expirySound", apart := false }
def ExpirySoundSaid : Prop := expirySoundRow.holds Try.pinned (OpenSpec.ofChange expirySoundSpec)

/-- ITS FALSE NEIGHBOUR: 'it returns false'. Refute it at one input. -/
def expirySoundWrong : ChangeSpec := { name := "expirySound", fn := fun _ => fun
  | [d1, d2, d3] => { results := [.lit (.bool false)], args := [d1, d2, d3] }
  | _ => none }
def ExpirySoundWrongFalsely : Prop := expirySoundRow.holds Try.pinned (OpenSpec.ofChange expirySoundWrong)

/-- 'tricklelaw41.ExpiryFresh': WHATEVER THE INPUT: true; the input reads as it did. -/
def expiryFreshSpec : ChangeSpec := { name := "expiryFresh", fn := fun _ => fun
  | [d1, d2, d3] => { results := [.lit (.bool true)], args := [d1, d2, d3] }
  | _ => none }
def expiryFreshRow : OpenClaim := { program := "ytgefhejpaojhbaa", sum := "9047420cabc188ef1554f647f87d6f1095e9238d1d6e49014c16c101cd1f036a", func := "trickle/tricklelaw41.ExpiryFresh", spec := "expiryFresh", apart := false }
def ExpiryFreshSaid : Prop := expiryFreshRow.holds Try.pinned (OpenSpec.ofChange expiryFreshSpec)

/-- ITS FALSE NEIGHBOUR: 'it returns false'. Refute it at one input. -/
def expiryFreshWrong : ChangeSpec := { name := "expiryFresh", fn := fun _ => fun
  | [d1, d2, d3] => { results := [.lit (.bool false)], args := [d1, d2, d3] }
  | _ => none }
def ExpiryFreshWrongFalsely : Prop := expiryFreshRow.holds Try.pinned (OpenSpec.ofChange expiryFreshWrong)

/-- 'tricklelaw41.ExpiryDeadline': WHATEVER THE INPUT: true; the input reads as it did. -/
def expiryDeadlineSpec : ChangeSpec := { name := "expiryDeadline", fn := fun _ => fun
  | [d1, d2, d3] => { results := [.lit (.bool true)], args := [d1, d2, d3] }
  | _ => none }
def expiryDeadlineRow : OpenClaim := { program := "ytgefhejpaojhbaa", sum := "9047420cabc188ef1554f647f87d6f1095e9238d1d6e49014c16c101cd1f036a", func := "trickle/tricklelaw41.ExpiryDeadline", spec := "expiryDeadline", apart := false }
def ExpiryDeadlineSaid : Prop := expiryDeadlineRow.holds Try.pinned (OpenSpec.ofChange expiryDeadlineSpec)

/-- ITS FALSE NEIGHBOUR: 'it returns false'. Refute it at one input. -/
def expiryDeadlineWrong : ChangeSpec := { name := "expiryDeadline", fn := fun _ => fun
  | [d1, d2, d3] => { results := [.lit (.bool false)], args := [d1, d2, d3] }
  | _ => none }
def ExpiryDeadlineWrongFalsely : Prop := expiryDeadlineRow.holds Try.pinned (OpenSpec.ofChange expiryDeadlineWrong)

/-- 'tricklelaw41.ExpiryTogether': WHATEVER THE INPUT: true; the input reads as it did. -/
def expiryTogetherSpec : ChangeSpec := { name := "expiryTogether", fn := fun _ => fun
  | [d1, d2] => { results := [.lit (.bool true)], args := [d1, d2] }
  | _ => none }
def expiryTogetherRow : OpenClaim := { program := "ytgefhejpaojhbaa", sum := "9047420cabc188ef1554f647f87d6f1095e9238d1d6e49014c16c101cd1f036a", func := "trickle/tricklelaw41.ExpiryTogether", spec := "expiryTogether", apart := false }
def ExpiryTogetherSaid : Prop := expiryTogetherRow.holds Try.pinned (OpenSpec.ofChange expiryTogetherSpec)

/-- ITS FALSE NEIGHBOUR: 'it returns false'. Refute it at one input. -/
def expiryTogetherWrong : ChangeSpec := { name := "expiryTogether", fn := fun _ => fun
  | [d1, d2] => { results := [.lit (.bool false)], args := [d1, d2] }
  | _ => none }
def ExpiryTogetherWrongFalsely : Prop := expiryTogetherRow.holds Try.pinned (OpenSpec.ofChange expiryTogetherWrong)

/-- 'tricklelaw41.ExpiryPurge': WHATEVER THE INPUT: true; the input reads as it did. -/
def expiryPurgeSpec : ChangeSpec := { name := "expiryPurge", fn := fun _ => fun
  | [d1, d2, d3] => { results := [.lit (.bool true)], args := [d1, d2, d3] }
  | _ => none }
def expiryPurgeRow : OpenClaim := { program := "ytgefhejpaojhbaa", sum := "9047420cabc188ef1554f647f87d6f1095e9238d1d6e49014c16c101cd1f036a", func := "trickle/tricklelaw41.ExpiryPurge", spec := "expiryPurge", apart := false }
def ExpiryPurgeSaid : Prop := expiryPurgeRow.holds Try.pinned (OpenSpec.ofChange expiryPurgeSpec)

/-- ITS FALSE NEIGHBOUR: 'it returns false'. Refute it at one input. -/
def expiryPurgeWrong : ChangeSpec := { name := "expiryPurge", fn := fun _ => fun
  | [d1, d2, d3] => { results := [.lit (.bool false)], args := [d1, d2, d3] }
  | _ => none }
def ExpiryPurgeWrongFalsely : Prop := expiryPurgeRow.holds Try.pinned (OpenSpec.ofChange expiryPurgeWrong)

/-- 'tricklelaw41.ExpiryPut': WHATEVER THE INPUT: true; the input reads as it did. -/
def expiryPutSpec : ChangeSpec := { name := "expiryPut", fn := fun _ => fun
  | [d1, d2, d3] => { results := [.lit (.bool true)], args := [d1, d2, d3] }
  | _ => none }
def expiryPutRow : OpenClaim := { program := "ytgefhejpaojhbaa", sum := "9047420cabc188ef1554f647f87d6f1095e9238d1d6e49014c16c101cd1f036a", func := "trickle/tricklelaw41.ExpiryPut", spec := "expiryPut", apart := false }
def ExpiryPutSaid : Prop := expiryPutRow.holds Try.pinned (OpenSpec.ofChange expiryPutSpec)

/-- ITS FALSE NEIGHBOUR: 'it returns false'. Refute it at one input. -/
def expiryPutWrong : ChangeSpec := { name := "expiryPut", fn := fun _ => fun
  | [d1, d2, d3] => { results := [.lit (.bool false)], args := [d1, d2, d3] }
  | _ => none }
def ExpiryPutWrongFalsely : Prop := expiryPutRow.holds Try.pinned (OpenSpec.ofChange expiryPutWrong)

/- THE SECOND FORM. 'bulk': how many values and letters a reading holds, each counted each time it is reached (what is shared counts as often as it is met; a slice's spare places count too). A statement '..UptoSaid' is the law's where the arguments, and the package variables that the reading takes, are together of bulk at most 1048576: NARROWER than '..Said'. Prove '..Said' where nothing that the law and all that it calls make is longer than what came in: it says more and counts as full. Else prove '..UptoSaid'. A law counts once. -/
mutual
def uptoBulk {H : Type} : DataW H → Nat
  | .lit (.string bytes) => bytes.length + 1
  | .lit _ => 1
  | .nil => 1
  | .ptr d => uptoBulk d + 1
  | .slice elems spare => uptoBulkAll elems + uptoBulkAll spare + 1
  | .agg parts => uptoBulkAll parts + 1
  | .iface _ d => uptoBulk d + 1
  | .map entries => uptoBulkEntries entries + 1
  | .held _ => 1
def uptoBulkAll {H : Type} : List (DataW H) → Nat
  | [] => 0
  | d :: r => uptoBulk d + uptoBulkAll r
def uptoBulkEntries {H : Type} : List (Lit × DataW H) → Nat
  | [] => 0
  | x :: r => uptoBulkEntry x + uptoBulkEntries r
def uptoBulkEntry {H : Type} : Lit × DataW H → Nat
  | (.string bytes, d) => bytes.length + uptoBulk d + 1
  | (_, d) => uptoBulk d + 1
 end
def uptoSmall : (H : Type) → List (DataW H) → Bool := fun _ ds => decide (uptoBulkAll ds ≤ 1048576)
def OpenSpec.upto (s : _root_.Go.ChangeSpec) : _root_.Go.OpenSpec := { _root_.Go.OpenSpec.ofChange s with cond := some uptoSmall }

/-- 'tricklelaw41.ExpirySound', WHERE WHAT IT READS IS OF BULK AT MOST 1048576: true; the input reads as it did. -/
def expirySoundUptoRow : OpenClaim := { program := "ytgefhejpaojhbaa", sum := "9047420cabc188ef1554f647f87d6f1095e9238d1d6e49014c16c101cd1f036a", func := "trickle/tricklelaw41.ExpirySound", spec := "expirySound", apart := false, narrowed := true }
def ExpirySoundUptoSaid : Prop := expirySoundUptoRow.holds Try.pinned (OpenSpec.upto expirySoundSpec)

/-- 'tricklelaw41.ExpiryFresh', WHERE WHAT IT READS IS OF BULK AT MOST 1048576: true; the input reads as it did. -/
def expiryFreshUptoRow : OpenClaim := { program := "ytgefhejpaojhbaa", sum := "9047420cabc188ef1554f647f87d6f1095e9238d1d6e49014c16c101cd1f036a", func := "trickle/tricklelaw41.ExpiryFresh", spec := "expiryFresh", apart := false, narrowed := true }
def ExpiryFreshUptoSaid : Prop := expiryFreshUptoRow.holds Try.pinned (OpenSpec.upto expiryFreshSpec)

/-- 'tricklelaw41.ExpiryDeadline', WHERE WHAT IT READS IS OF BULK AT MOST 1048576: true; the input reads as it did. -/
def expiryDeadlineUptoRow : OpenClaim := { program := "ytgefhejpaojhbaa", sum := "9047420cabc188ef1554f647f87d6f1095e9238d1d6e49014c16c101cd1f036a", func := "trickle/tricklelaw41.ExpiryDeadline", spec := "expiryDeadline", apart := false, narrowed := true }
def ExpiryDeadlineUptoSaid : Prop := expiryDeadlineUptoRow.holds Try.pinned (OpenSpec.upto expiryDeadlineSpec)

/-- 'tricklelaw41.ExpiryTogether', WHERE WHAT IT READS IS OF BULK AT MOST 1048576: true; the input reads as it did. -/
def expiryTogetherUptoRow : OpenClaim := { program := "ytgefhejpaojhbaa", sum := "9047420cabc188ef1554f647f87d6f1095e9238d1d6e49014c16c101cd1f036a", func := "trickle/tricklelaw41.ExpiryTogether", spec := "expiryTogether", apart := false, narrowed := true }
def ExpiryTogetherUptoSaid : Prop := expiryTogetherUptoRow.holds Try.pinned (OpenSpec.upto expiryTogetherSpec)

/-- 'tricklelaw41.ExpiryPurge', WHERE WHAT IT READS IS OF BULK AT MOST 1048576: true; the input reads as it did. -/
def expiryPurgeUptoRow : OpenClaim := { program := "ytgefhejpaojhbaa", sum := "9047420cabc188ef1554f647f87d6f1095e9238d1d6e49014c16c101cd1f036a", func := "trickle/tricklelaw41.ExpiryPurge", spec := "expiryPurge", apart := false, narrowed := true }
def ExpiryPurgeUptoSaid : Prop := expiryPurgeUptoRow.holds Try.pinned (OpenSpec.upto expiryPurgeSpec)

/-- 'tricklelaw41.ExpiryPut', WHERE WHAT IT READS IS OF BULK AT MOST 1048576: true; the input reads as it did. -/
def expiryPutUptoRow : OpenClaim := { program := "ytgefhejpaojhbaa", sum := "9047420cabc188ef1554f647f87d6f1095e9238d1d6e49014c16c101cd1f036a", func := "trickle/tricklelaw41.ExpiryPut", spec := "expiryPut", apart := false, narrowed := true }
def ExpiryPutUptoSaid : Prop := expiryPutUptoRow.holds Try.pinned (OpenSpec.upto expiryPutSpec)

end Rows
end Go.Proofs.Ytgefhejpaojhbaa
