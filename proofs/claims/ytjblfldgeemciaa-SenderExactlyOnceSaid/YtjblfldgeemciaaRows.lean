/-
  No cell of these rows narrows 'for every input' (looked for: loops, veiled, ifaces, maps, wideKeys, modest, calm, conditions, laid).
  DERIVED. THE GIVEN ROWS OF THIS SEAT. 7 by the template 'for every input the law returns true; each argument reads behind the call as it read before'; 0 by the template 'total and deterministic' (their statements: YtjblfldgeemciaaTotals.lean).
  GIVEN WITH THE SEED: the statements are not yours to turn. If you find one false, say at which input.
  Laid BY PROGRAM, IN A SANDBOX (cutbox-rows.mjs): the forced cells as the released guide's own fill.sh prints them over the translation 8eabaa2293d0b27d… (all of the seat's roots in one cut). By AI agents, Wed Nov 11 2026. No macro, syntax, notation, axiom, sorry.
-/
import Derived.Test.YtjblfldgeemciaaChecked
import GoSem.Claim
import GoSem.ClaimJoined
import GoSem.ClaimMapViews
import Derived.JoinedTies
import Derived.KernelRfl
namespace Go.Proofs.Ytjblfldgeemciaa
/- THE CELL 'sum', in the pinned program and in every row, IS THE sha256 OF THE DUMP (.gsa) THAT YtjblfldgeemciaaProg.lean LOADS. Nothing in Lean hashes anything: it is a label: what it is worth is what the hold of that sum in a sandbox is worth. -/
noncomputable def Try.pinned : Pinned := { name := "ytjblfldgeemciaa", sum := "8eabaa2293d0b27dffee0270fcbf4c5ef5c4aa55a8a96f14587302d906de8491", checked := Try.checked }
namespace Rows
def none {H : Type} : Left H := { results := [], args := [] }

/-- 'tricklelaw45.SenderReceive': WHATEVER THE INPUT: true; the input reads as it did. -/
def senderReceiveSpec : ChangeSpec := { name := "senderReceive", fn := fun _ => fun
  | [d1, d2, d3] => { results := [.lit (.bool true)], args := [d1, d2, d3] }
  | _ => none }
def senderReceiveRow : OpenClaim := { program := "ytjblfldgeemciaa", sum := "8eabaa2293d0b27dffee0270fcbf4c5ef5c4aa55a8a96f14587302d906de8491", func := "trickle/tricklelaw45.SenderReceive", spec := "senderReceive", unfollowed := true, recurses := true, apart := false }
def SenderReceiveSaid : Prop := senderReceiveRow.holds Try.pinned (OpenSpec.ofChange senderReceiveSpec)

/-- ITS FALSE NEIGHBOUR: 'it returns false'. Refute it at one input. -/
def senderReceiveWrong : ChangeSpec := { name := "senderReceive", fn := fun _ => fun
  | [d1, d2, d3] => { results := [.lit (.bool false)], args := [d1, d2, d3] }
  | _ => none }
def SenderReceiveWrongFalsely : Prop := senderReceiveRow.holds Try.pinned (OpenSpec.ofChange senderReceiveWrong)

/-- 'tricklelaw45.SenderNew': WHATEVER THE INPUT: true; the input reads as it did. -/
def senderNewSpec : ChangeSpec := { name := "senderNew", fn := fun _ => fun
  | [d1, d2] => { results := [.lit (.bool true)], args := [d1, d2] }
  | _ => none }
def senderNewRow : OpenClaim := { program := "ytjblfldgeemciaa", sum := "8eabaa2293d0b27dffee0270fcbf4c5ef5c4aa55a8a96f14587302d906de8491", func := "trickle/tricklelaw45.SenderNew", spec := "senderNew", unfollowed := true, recurses := true, apart := false }
def SenderNewSaid : Prop := senderNewRow.holds Try.pinned (OpenSpec.ofChange senderNewSpec)

/-- ITS FALSE NEIGHBOUR: 'it returns false'. Refute it at one input. -/
def senderNewWrong : ChangeSpec := { name := "senderNew", fn := fun _ => fun
  | [d1, d2] => { results := [.lit (.bool false)], args := [d1, d2] }
  | _ => none }
def SenderNewWrongFalsely : Prop := senderNewRow.holds Try.pinned (OpenSpec.ofChange senderNewWrong)

/-- 'tricklelaw45.SenderWindow': WHATEVER THE INPUT: true; the input reads as it did. -/
def senderWindowSpec : ChangeSpec := { name := "senderWindow", fn := fun _ => fun
  | [d1, d2, d3] => { results := [.lit (.bool true)], args := [d1, d2, d3] }
  | _ => none }
def senderWindowRow : OpenClaim := { program := "ytjblfldgeemciaa", sum := "8eabaa2293d0b27dffee0270fcbf4c5ef5c4aa55a8a96f14587302d906de8491", func := "trickle/tricklelaw45.SenderWindow", spec := "senderWindow", unfollowed := true, recurses := true, apart := false }
def SenderWindowSaid : Prop := senderWindowRow.holds Try.pinned (OpenSpec.ofChange senderWindowSpec)

/-- ITS FALSE NEIGHBOUR: 'it returns false'. Refute it at one input. -/
def senderWindowWrong : ChangeSpec := { name := "senderWindow", fn := fun _ => fun
  | [d1, d2, d3] => { results := [.lit (.bool false)], args := [d1, d2, d3] }
  | _ => none }
def SenderWindowWrongFalsely : Prop := senderWindowRow.holds Try.pinned (OpenSpec.ofChange senderWindowWrong)

/-- 'tricklelaw45.SenderRetry': WHATEVER THE INPUT: true; the input reads as it did. -/
def senderRetrySpec : ChangeSpec := { name := "senderRetry", fn := fun _ => fun
  | [d1, d2, d3] => { results := [.lit (.bool true)], args := [d1, d2, d3] }
  | _ => none }
def senderRetryRow : OpenClaim := { program := "ytjblfldgeemciaa", sum := "8eabaa2293d0b27dffee0270fcbf4c5ef5c4aa55a8a96f14587302d906de8491", func := "trickle/tricklelaw45.SenderRetry", spec := "senderRetry", unfollowed := true, recurses := true, apart := false }
def SenderRetrySaid : Prop := senderRetryRow.holds Try.pinned (OpenSpec.ofChange senderRetrySpec)

/-- ITS FALSE NEIGHBOUR: 'it returns false'. Refute it at one input. -/
def senderRetryWrong : ChangeSpec := { name := "senderRetry", fn := fun _ => fun
  | [d1, d2, d3] => { results := [.lit (.bool false)], args := [d1, d2, d3] }
  | _ => none }
def SenderRetryWrongFalsely : Prop := senderRetryRow.holds Try.pinned (OpenSpec.ofChange senderRetryWrong)

/-- 'tricklelaw45.SenderPoll': WHATEVER THE INPUT: true; the input reads as it did. -/
def senderPollSpec : ChangeSpec := { name := "senderPoll", fn := fun _ => fun
  | [d1, d2, d3] => { results := [.lit (.bool true)], args := [d1, d2, d3] }
  | _ => none }
def senderPollRow : OpenClaim := { program := "ytjblfldgeemciaa", sum := "8eabaa2293d0b27dffee0270fcbf4c5ef5c4aa55a8a96f14587302d906de8491", func := "trickle/tricklelaw45.SenderPoll", spec := "senderPoll", unfollowed := true, recurses := true, apart := false }
def SenderPollSaid : Prop := senderPollRow.holds Try.pinned (OpenSpec.ofChange senderPollSpec)

/-- ITS FALSE NEIGHBOUR: 'it returns false'. Refute it at one input. -/
def senderPollWrong : ChangeSpec := { name := "senderPoll", fn := fun _ => fun
  | [d1, d2, d3] => { results := [.lit (.bool false)], args := [d1, d2, d3] }
  | _ => none }
def SenderPollWrongFalsely : Prop := senderPollRow.holds Try.pinned (OpenSpec.ofChange senderPollWrong)

/-- 'tricklelaw45.SenderRestart': WHATEVER THE INPUT: true; the input reads as it did. -/
def senderRestartSpec : ChangeSpec := { name := "senderRestart", fn := fun _ => fun
  | [d1, d2, d3] => { results := [.lit (.bool true)], args := [d1, d2, d3] }
  | _ => none }
def senderRestartRow : OpenClaim := { program := "ytjblfldgeemciaa", sum := "8eabaa2293d0b27dffee0270fcbf4c5ef5c4aa55a8a96f14587302d906de8491", func := "trickle/tricklelaw45.SenderRestart", spec := "senderRestart", unfollowed := true, recurses := true, apart := false }
def SenderRestartSaid : Prop := senderRestartRow.holds Try.pinned (OpenSpec.ofChange senderRestartSpec)

/-- ITS FALSE NEIGHBOUR: 'it returns false'. Refute it at one input. -/
def senderRestartWrong : ChangeSpec := { name := "senderRestart", fn := fun _ => fun
  | [d1, d2, d3] => { results := [.lit (.bool false)], args := [d1, d2, d3] }
  | _ => none }
def SenderRestartWrongFalsely : Prop := senderRestartRow.holds Try.pinned (OpenSpec.ofChange senderRestartWrong)

/-- 'tricklelaw45.SenderExactlyOnce': WHATEVER THE INPUT: true; the input reads as it did. -/
def senderExactlyOnceSpec : ChangeSpec := { name := "senderExactlyOnce", fn := fun _ => fun
  | [d1, d2, d3] => { results := [.lit (.bool true)], args := [d1, d2, d3] }
  | _ => none }
def senderExactlyOnceRow : OpenClaim := { program := "ytjblfldgeemciaa", sum := "8eabaa2293d0b27dffee0270fcbf4c5ef5c4aa55a8a96f14587302d906de8491", func := "trickle/tricklelaw45.SenderExactlyOnce", spec := "senderExactlyOnce", unfollowed := true, recurses := true, apart := false }
def SenderExactlyOnceSaid : Prop := senderExactlyOnceRow.holds Try.pinned (OpenSpec.ofChange senderExactlyOnceSpec)

/-- ITS FALSE NEIGHBOUR: 'it returns false'. Refute it at one input. -/
def senderExactlyOnceWrong : ChangeSpec := { name := "senderExactlyOnce", fn := fun _ => fun
  | [d1, d2, d3] => { results := [.lit (.bool false)], args := [d1, d2, d3] }
  | _ => none }
def SenderExactlyOnceWrongFalsely : Prop := senderExactlyOnceRow.holds Try.pinned (OpenSpec.ofChange senderExactlyOnceWrong)

/- THE SECOND FORM. 'bulk': how many values and letters a reading holds, each counted each time it is reached (what is shared counts as often as it is met; a slice's spare places count too). A statement '..UptoSaid' is the law's where the arguments, and the package variables that the reading takes, are together of bulk at most 1048576: NARROWER than '..Said'. Prove '..Said' where nothing that the law and all that it calls make is longer than what came in: it says more and counts as full. Else prove '..UptoSaid'. A law counts once. -/
mutual
def uptoBulk {H : Type} : DataW H → Nat
  | .lit (.string bytes) => bytes.length + 1
  | .lit _ => 1
  | .nil => 1
  | .ptr d => uptoBulk d + 1
  | .slice elems spare => uptoBulkAll elems + uptoBulkAll spare + 1
  | .agg parts => uptoBulkAll parts + 1
  | .iface _ d => uptoBulk d + 1
  | .map entries => uptoBulkEntries entries + 1
  | .held _ => 1
def uptoBulkAll {H : Type} : List (DataW H) → Nat
  | [] => 0
  | d :: r => uptoBulk d + uptoBulkAll r
def uptoBulkEntries {H : Type} : List (Lit × DataW H) → Nat
  | [] => 0
  | x :: r => uptoBulkEntry x + uptoBulkEntries r
def uptoBulkEntry {H : Type} : Lit × DataW H → Nat
  | (.string bytes, d) => bytes.length + uptoBulk d + 1
  | (_, d) => uptoBulk d + 1
 end
def uptoSmall : (H : Type) → List (DataW H) → Bool := fun _ ds => decide (uptoBulkAll ds ≤ 1048576)
def OpenSpec.upto (s : _root_.Go.ChangeSpec) : _root_.Go.OpenSpec := { _root_.Go.OpenSpec.ofChange s with cond := some uptoSmall }

/-- 'tricklelaw45.SenderReceive', WHERE WHAT IT READS IS OF BULK AT MOST 1048576: true; the input reads as it did. -/
def senderReceiveUptoRow : OpenClaim := { program := "ytjblfldgeemciaa", sum := "8eabaa2293d0b27dffee0270fcbf4c5ef5c4aa55a8a96f14587302d906de8491", func := "trickle/tricklelaw45.SenderReceive", spec := "senderReceive", unfollowed := true, recurses := true, apart := false, narrowed := true }
def SenderReceiveUptoSaid : Prop := senderReceiveUptoRow.holds Try.pinned (OpenSpec.upto senderReceiveSpec)

/-- 'tricklelaw45.SenderNew', WHERE WHAT IT READS IS OF BULK AT MOST 1048576: true; the input reads as it did. -/
def senderNewUptoRow : OpenClaim := { program := "ytjblfldgeemciaa", sum := "8eabaa2293d0b27dffee0270fcbf4c5ef5c4aa55a8a96f14587302d906de8491", func := "trickle/tricklelaw45.SenderNew", spec := "senderNew", unfollowed := true, recurses := true, apart := false, narrowed := true }
def SenderNewUptoSaid : Prop := senderNewUptoRow.holds Try.pinned (OpenSpec.upto senderNewSpec)

/-- 'tricklelaw45.SenderWindow', WHERE WHAT IT READS IS OF BULK AT MOST 1048576: true; the input reads as it did. -/
def senderWindowUptoRow : OpenClaim := { program := "ytjblfldgeemciaa", sum := "8eabaa2293d0b27dffee0270fcbf4c5ef5c4aa55a8a96f14587302d906de8491", func := "trickle/tricklelaw45.SenderWindow", spec := "senderWindow", unfollowed := true, recurses := true, apart := false, narrowed := true }
def SenderWindowUptoSaid : Prop := senderWindowUptoRow.holds Try.pinned (OpenSpec.upto senderWindowSpec)

/-- 'tricklelaw45.SenderRetry', WHERE WHAT IT READS IS OF BULK AT MOST 1048576: true; the input reads as it did. -/
def senderRetryUptoRow : OpenClaim := { program := "ytjblfldgeemciaa", sum := "8eabaa2293d0b27dffee0270fcbf4c5ef5c4aa55a8a96f14587302d906de8491", func := "trickle/tricklelaw45.SenderRetry", spec := "senderRetry", unfollowed := true, recurses := true, apart := false, narrowed := true }
def SenderRetryUptoSaid : Prop := senderRetryUptoRow.holds Try.pinned (OpenSpec.upto senderRetrySpec)

/-- 'tricklelaw45.SenderPoll', WHERE WHAT IT READS IS OF BULK AT MOST 1048576: true; the input reads as it did. -/
def senderPollUptoRow : OpenClaim := { program := "ytjblfldgeemciaa", sum := "8eabaa2293d0b27dffee0270fcbf4c5ef5c4aa55a8a96f14587302d906de8491", func := "trickle/tricklelaw45.SenderPoll", spec := "senderPoll", unfollowed := true, recurses := true, apart := false, narrowed := true }
def SenderPollUptoSaid : Prop := senderPollUptoRow.holds Try.pinned (OpenSpec.upto senderPollSpec)

/-- 'tricklelaw45.SenderRestart', WHERE WHAT IT READS IS OF BULK AT MOST 1048576: true; the input reads as it did. -/
def senderRestartUptoRow : OpenClaim := { program := "ytjblfldgeemciaa", sum := "8eabaa2293d0b27dffee0270fcbf4c5ef5c4aa55a8a96f14587302d906de8491", func := "trickle/tricklelaw45.SenderRestart", spec := "senderRestart", unfollowed := true, recurses := true, apart := false, narrowed := true }
def SenderRestartUptoSaid : Prop := senderRestartUptoRow.holds Try.pinned (OpenSpec.upto senderRestartSpec)

/-- 'tricklelaw45.SenderExactlyOnce', WHERE WHAT IT READS IS OF BULK AT MOST 1048576: true; the input reads as it did. -/
def senderExactlyOnceUptoRow : OpenClaim := { program := "ytjblfldgeemciaa", sum := "8eabaa2293d0b27dffee0270fcbf4c5ef5c4aa55a8a96f14587302d906de8491", func := "trickle/tricklelaw45.SenderExactlyOnce", spec := "senderExactlyOnce", unfollowed := true, recurses := true, apart := false, narrowed := true }
def SenderExactlyOnceUptoSaid : Prop := senderExactlyOnceUptoRow.holds Try.pinned (OpenSpec.upto senderExactlyOnceSpec)

end Rows
end Go.Proofs.Ytjblfldgeemciaa
