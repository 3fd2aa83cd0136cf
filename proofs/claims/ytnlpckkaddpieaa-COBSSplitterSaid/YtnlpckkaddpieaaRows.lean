/-
  No cell of these rows narrows 'for every input' (looked for: loops, veiled, ifaces, maps, wideKeys, modest, calm, conditions, laid).
  DERIVED. THE GIVEN ROWS OF THIS SEAT. 8 by the template 'for every input the law returns true; each argument reads behind the call as it read before'; 0 by the template 'total and deterministic' (their statements: YtnlpckkaddpieaaTotals.lean).
  GIVEN WITH THE SEED: the statements are not yours to turn. If you find one false, say at which input.
  Laid BY PROGRAM, IN A SANDBOX (cutbox-rows.mjs): the forced cells as the released guide's own fill.sh prints them over the translation 0ecb8452ea7fa915… (all of the seat's roots in one cut). By AI agents, Wed Nov 11 2026. No macro, syntax, notation, axiom, sorry.
-/
import Derived.Test.YtnlpckkaddpieaaChecked
import GoSem.Claim
import GoSem.ClaimJoined
import GoSem.ClaimMapViews
import Derived.JoinedTies
import Derived.KernelRfl
namespace Go.Proofs.Ytnlpckkaddpieaa
/- THE CELL 'sum', in the pinned program and in every row, IS THE sha256 OF THE DUMP (.gsa) THAT YtnlpckkaddpieaaProg.lean LOADS. Nothing in Lean hashes anything: it is a label: what it is worth is what the hold of that sum in a sandbox is worth. -/
noncomputable def Try.pinned : Pinned := { name := "ytnlpckkaddpieaa", sum := "0ecb8452ea7fa9152f5ec72659e9292ec01b02e9652fe70c65fca845fce4206e", checked := Try.checked }
namespace Rows
def none {H : Type} : Left H := { results := [], args := [] }

/-- 'tricklelaw03.COBSEncode': WHATEVER THE INPUT: true; the input reads as it did. -/
def cOBSEncodeSpec : ChangeSpec := { name := "cOBSEncode", fn := fun _ => fun
  | [d] => { results := [.lit (.bool true)], args := [d] }
  | _ => none }
def cOBSEncodeRow : OpenClaim := { program := "ytnlpckkaddpieaa", sum := "0ecb8452ea7fa9152f5ec72659e9292ec01b02e9652fe70c65fca845fce4206e", func := "trickle/tricklelaw03.COBSEncode", spec := "cOBSEncode", inPlace := ["internal/bytealg.IndexByte"], apart := false }
def COBSEncodeSaid : Prop := cOBSEncodeRow.holds Try.pinned (OpenSpec.ofChange cOBSEncodeSpec)

/-- ITS FALSE NEIGHBOUR: 'it returns false'. Refute it at one input. -/
def cOBSEncodeWrong : ChangeSpec := { name := "cOBSEncode", fn := fun _ => fun
  | [d] => { results := [.lit (.bool false)], args := [d] }
  | _ => none }
def COBSEncodeWrongFalsely : Prop := cOBSEncodeRow.holds Try.pinned (OpenSpec.ofChange cOBSEncodeWrong)

/-- 'tricklelaw03.COBSDecode': WHATEVER THE INPUT: true; the input reads as it did. -/
def cOBSDecodeSpec : ChangeSpec := { name := "cOBSDecode", fn := fun _ => fun
  | [d] => { results := [.lit (.bool true)], args := [d] }
  | _ => none }
def cOBSDecodeRow : OpenClaim := { program := "ytnlpckkaddpieaa", sum := "0ecb8452ea7fa9152f5ec72659e9292ec01b02e9652fe70c65fca845fce4206e", func := "trickle/tricklelaw03.COBSDecode", spec := "cOBSDecode", inPlace := ["internal/bytealg.IndexByte"], apart := false }
def COBSDecodeSaid : Prop := cOBSDecodeRow.holds Try.pinned (OpenSpec.ofChange cOBSDecodeSpec)

/-- ITS FALSE NEIGHBOUR: 'it returns false'. Refute it at one input. -/
def cOBSDecodeWrong : ChangeSpec := { name := "cOBSDecode", fn := fun _ => fun
  | [d] => { results := [.lit (.bool false)], args := [d] }
  | _ => none }
def COBSDecodeWrongFalsely : Prop := cOBSDecodeRow.holds Try.pinned (OpenSpec.ofChange cOBSDecodeWrong)

/-- 'tricklelaw03.COBSRoundTrip': WHATEVER THE INPUT: true; the input reads as it did. -/
def cOBSRoundTripSpec : ChangeSpec := { name := "cOBSRoundTrip", fn := fun _ => fun
  | [d] => { results := [.lit (.bool true)], args := [d] }
  | _ => none }
def cOBSRoundTripRow : OpenClaim := { program := "ytnlpckkaddpieaa", sum := "0ecb8452ea7fa9152f5ec72659e9292ec01b02e9652fe70c65fca845fce4206e", func := "trickle/tricklelaw03.COBSRoundTrip", spec := "cOBSRoundTrip", inPlace := ["internal/bytealg.IndexByte"], apart := false }
def COBSRoundTripSaid : Prop := cOBSRoundTripRow.holds Try.pinned (OpenSpec.ofChange cOBSRoundTripSpec)

/-- ITS FALSE NEIGHBOUR: 'it returns false'. Refute it at one input. -/
def cOBSRoundTripWrong : ChangeSpec := { name := "cOBSRoundTrip", fn := fun _ => fun
  | [d] => { results := [.lit (.bool false)], args := [d] }
  | _ => none }
def COBSRoundTripWrongFalsely : Prop := cOBSRoundTripRow.holds Try.pinned (OpenSpec.ofChange cOBSRoundTripWrong)

/-- 'tricklelaw03.COBSPackets': WHATEVER THE INPUT: true; the input reads as it did. -/
def cOBSPacketsSpec : ChangeSpec := { name := "cOBSPackets", fn := fun _ => fun
  | [d1, d2] => { results := [.lit (.bool true)], args := [d1, d2] }
  | _ => none }
def cOBSPacketsRow : OpenClaim := { program := "ytnlpckkaddpieaa", sum := "0ecb8452ea7fa9152f5ec72659e9292ec01b02e9652fe70c65fca845fce4206e", func := "trickle/tricklelaw03.COBSPackets", spec := "cOBSPackets", inPlace := ["internal/bytealg.IndexByte"], apart := false }
def COBSPacketsSaid : Prop := cOBSPacketsRow.holds Try.pinned (OpenSpec.ofChange cOBSPacketsSpec)

/-- ITS FALSE NEIGHBOUR: 'it returns false'. Refute it at one input. -/
def cOBSPacketsWrong : ChangeSpec := { name := "cOBSPackets", fn := fun _ => fun
  | [d1, d2] => { results := [.lit (.bool false)], args := [d1, d2] }
  | _ => none }
def COBSPacketsWrongFalsely : Prop := cOBSPacketsRow.holds Try.pinned (OpenSpec.ofChange cOBSPacketsWrong)

/-- 'tricklelaw03.COBSNoZeros': WHATEVER THE INPUT: true; the input reads as it did. -/
def cOBSNoZerosSpec : ChangeSpec := { name := "cOBSNoZeros", fn := fun _ => fun
  | [d] => { results := [.lit (.bool true)], args := [d] }
  | _ => none }
def cOBSNoZerosRow : OpenClaim := { program := "ytnlpckkaddpieaa", sum := "0ecb8452ea7fa9152f5ec72659e9292ec01b02e9652fe70c65fca845fce4206e", func := "trickle/tricklelaw03.COBSNoZeros", spec := "cOBSNoZeros", inPlace := ["internal/bytealg.IndexByte"], apart := false }
def COBSNoZerosSaid : Prop := cOBSNoZerosRow.holds Try.pinned (OpenSpec.ofChange cOBSNoZerosSpec)

/-- ITS FALSE NEIGHBOUR: 'it returns false'. Refute it at one input. -/
def cOBSNoZerosWrong : ChangeSpec := { name := "cOBSNoZeros", fn := fun _ => fun
  | [d] => { results := [.lit (.bool false)], args := [d] }
  | _ => none }
def COBSNoZerosWrongFalsely : Prop := cOBSNoZerosRow.holds Try.pinned (OpenSpec.ofChange cOBSNoZerosWrong)

/-- 'tricklelaw03.COBSSize': WHATEVER THE INPUT: true; the input reads as it did. -/
def cOBSSizeSpec : ChangeSpec := { name := "cOBSSize", fn := fun _ => fun
  | [d1, d2] => { results := [.lit (.bool true)], args := [d1, d2] }
  | _ => none }
def cOBSSizeRow : OpenClaim := { program := "ytnlpckkaddpieaa", sum := "0ecb8452ea7fa9152f5ec72659e9292ec01b02e9652fe70c65fca845fce4206e", func := "trickle/tricklelaw03.COBSSize", spec := "cOBSSize", inPlace := ["internal/bytealg.IndexByte"], apart := false }
def COBSSizeSaid : Prop := cOBSSizeRow.holds Try.pinned (OpenSpec.ofChange cOBSSizeSpec)

/-- ITS FALSE NEIGHBOUR: 'it returns false'. Refute it at one input. -/
def cOBSSizeWrong : ChangeSpec := { name := "cOBSSize", fn := fun _ => fun
  | [d1, d2] => { results := [.lit (.bool false)], args := [d1, d2] }
  | _ => none }
def COBSSizeWrongFalsely : Prop := cOBSSizeRow.holds Try.pinned (OpenSpec.ofChange cOBSSizeWrong)

/-- 'tricklelaw03.COBSNoAliasing': WHATEVER THE INPUT: true; the input reads as it did. -/
def cOBSNoAliasingSpec : ChangeSpec := { name := "cOBSNoAliasing", fn := fun _ => fun
  | [d] => { results := [.lit (.bool true)], args := [d] }
  | _ => none }
def cOBSNoAliasingRow : OpenClaim := { program := "ytnlpckkaddpieaa", sum := "0ecb8452ea7fa9152f5ec72659e9292ec01b02e9652fe70c65fca845fce4206e", func := "trickle/tricklelaw03.COBSNoAliasing", spec := "cOBSNoAliasing", inPlace := ["internal/bytealg.IndexByte"], apart := false }
def COBSNoAliasingSaid : Prop := cOBSNoAliasingRow.holds Try.pinned (OpenSpec.ofChange cOBSNoAliasingSpec)

/-- ITS FALSE NEIGHBOUR: 'it returns false'. Refute it at one input. -/
def cOBSNoAliasingWrong : ChangeSpec := { name := "cOBSNoAliasing", fn := fun _ => fun
  | [d] => { results := [.lit (.bool false)], args := [d] }
  | _ => none }
def COBSNoAliasingWrongFalsely : Prop := cOBSNoAliasingRow.holds Try.pinned (OpenSpec.ofChange cOBSNoAliasingWrong)

/-- 'tricklelaw03.COBSSplitter': WHATEVER THE INPUT: true; the input reads as it did. -/
def cOBSSplitterSpec : ChangeSpec := { name := "cOBSSplitter", fn := fun _ => fun
  | [d1, d2, d3] => { results := [.lit (.bool true)], args := [d1, d2, d3] }
  | _ => none }
def cOBSSplitterRow : OpenClaim := { program := "ytnlpckkaddpieaa", sum := "0ecb8452ea7fa9152f5ec72659e9292ec01b02e9652fe70c65fca845fce4206e", func := "trickle/tricklelaw03.COBSSplitter", spec := "cOBSSplitter", inPlace := ["internal/bytealg.IndexByte"], apart := false }
def COBSSplitterSaid : Prop := cOBSSplitterRow.holds Try.pinned (OpenSpec.ofChange cOBSSplitterSpec)

/-- ITS FALSE NEIGHBOUR: 'it returns false'. Refute it at one input. -/
def cOBSSplitterWrong : ChangeSpec := { name := "cOBSSplitter", fn := fun _ => fun
  | [d1, d2, d3] => { results := [.lit (.bool false)], args := [d1, d2, d3] }
  | _ => none }
def COBSSplitterWrongFalsely : Prop := cOBSSplitterRow.holds Try.pinned (OpenSpec.ofChange cOBSSplitterWrong)

/- THE SECOND FORM. 'bulk': how many values and letters a reading holds, each counted each time it is reached (what is shared counts as often as it is met; a slice's spare places count too). A statement '..UptoSaid' is the law's where the arguments, and the package variables that the reading takes, are together of bulk at most 1048576: NARROWER than '..Said'. Prove '..Said' where nothing that the law and all that it calls make is longer than what came in: it says more and counts as full. Else prove '..UptoSaid'. A law counts once. -/
mutual
def uptoBulk {H : Type} : DataW H → Nat
  | .lit (.string bytes) => bytes.length + 1
  | .lit _ => 1
  | .nil => 1
  | .ptr d => uptoBulk d + 1
  | .slice elems spare => uptoBulkAll elems + uptoBulkAll spare + 1
  | .agg parts => uptoBulkAll parts + 1
  | .iface _ d => uptoBulk d + 1
  | .map entries => uptoBulkEntries entries + 1
  | .held _ => 1
def uptoBulkAll {H : Type} : List (DataW H) → Nat
  | [] => 0
  | d :: r => uptoBulk d + uptoBulkAll r
def uptoBulkEntries {H : Type} : List (Lit × DataW H) → Nat
  | [] => 0
  | x :: r => uptoBulkEntry x + uptoBulkEntries r
def uptoBulkEntry {H : Type} : Lit × DataW H → Nat
  | (.string bytes, d) => bytes.length + uptoBulk d + 1
  | (_, d) => uptoBulk d + 1
 end
def uptoSmall : (H : Type) → List (DataW H) → Bool := fun _ ds => decide (uptoBulkAll ds ≤ 1048576)
def OpenSpec.upto (s : _root_.Go.ChangeSpec) : _root_.Go.OpenSpec := { _root_.Go.OpenSpec.ofChange s with cond := some uptoSmall }

/-- 'tricklelaw03.COBSEncode', WHERE WHAT IT READS IS OF BULK AT MOST 1048576: true; the input reads as it did. -/
def cOBSEncodeUptoRow : OpenClaim := { program := "ytnlpckkaddpieaa", sum := "0ecb8452ea7fa9152f5ec72659e9292ec01b02e9652fe70c65fca845fce4206e", func := "trickle/tricklelaw03.COBSEncode", spec := "cOBSEncode", inPlace := ["internal/bytealg.IndexByte"], apart := false, narrowed := true }
def COBSEncodeUptoSaid : Prop := cOBSEncodeUptoRow.holds Try.pinned (OpenSpec.upto cOBSEncodeSpec)

/-- 'tricklelaw03.COBSDecode', WHERE WHAT IT READS IS OF BULK AT MOST 1048576: true; the input reads as it did. -/
def cOBSDecodeUptoRow : OpenClaim := { program := "ytnlpckkaddpieaa", sum := "0ecb8452ea7fa9152f5ec72659e9292ec01b02e9652fe70c65fca845fce4206e", func := "trickle/tricklelaw03.COBSDecode", spec := "cOBSDecode", inPlace := ["internal/bytealg.IndexByte"], apart := false, narrowed := true }
def COBSDecodeUptoSaid : Prop := cOBSDecodeUptoRow.holds Try.pinned (OpenSpec.upto cOBSDecodeSpec)

/-- 'tricklelaw03.COBSRoundTrip', WHERE WHAT IT READS IS OF BULK AT MOST 1048576: true; the input reads as it did. -/
def cOBSRoundTripUptoRow : OpenClaim := { program := "ytnlpckkaddpieaa", sum := "0ecb8452ea7fa9152f5ec72659e9292ec01b02e9652fe70c65fca845fce4206e", func := "trickle/tricklelaw03.COBSRoundTrip", spec := "cOBSRoundTrip", inPlace := ["internal/bytealg.IndexByte"], apart := false, narrowed := true }
def COBSRoundTripUptoSaid : Prop := cOBSRoundTripUptoRow.holds Try.pinned (OpenSpec.upto cOBSRoundTripSpec)

/-- 'tricklelaw03.COBSPackets', WHERE WHAT IT READS IS OF BULK AT MOST 1048576: true; the input reads as it did. -/
def cOBSPacketsUptoRow : OpenClaim := { program := "ytnlpckkaddpieaa", sum := "0ecb8452ea7fa9152f5ec72659e9292ec01b02e9652fe70c65fca845fce4206e", func := "trickle/tricklelaw03.COBSPackets", spec := "cOBSPackets", inPlace := ["internal/bytealg.IndexByte"], apart := false, narrowed := true }
def COBSPacketsUptoSaid : Prop := cOBSPacketsUptoRow.holds Try.pinned (OpenSpec.upto cOBSPacketsSpec)

/-- 'tricklelaw03.COBSNoZeros', WHERE WHAT IT READS IS OF BULK AT MOST 1048576: true; the input reads as it did. -/
def cOBSNoZerosUptoRow : OpenClaim := { program := "ytnlpckkaddpieaa", sum := "0ecb8452ea7fa9152f5ec72659e9292ec01b02e9652fe70c65fca845fce4206e", func := "trickle/tricklelaw03.COBSNoZeros", spec := "cOBSNoZeros", inPlace := ["internal/bytealg.IndexByte"], apart := false, narrowed := true }
def COBSNoZerosUptoSaid : Prop := cOBSNoZerosUptoRow.holds Try.pinned (OpenSpec.upto cOBSNoZerosSpec)

/-- 'tricklelaw03.COBSSize', WHERE WHAT IT READS IS OF BULK AT MOST 1048576: true; the input reads as it did. -/
def cOBSSizeUptoRow : OpenClaim := { program := "ytnlpckkaddpieaa", sum := "0ecb8452ea7fa9152f5ec72659e9292ec01b02e9652fe70c65fca845fce4206e", func := "trickle/tricklelaw03.COBSSize", spec := "cOBSSize", inPlace := ["internal/bytealg.IndexByte"], apart := false, narrowed := true }
def COBSSizeUptoSaid : Prop := cOBSSizeUptoRow.holds Try.pinned (OpenSpec.upto cOBSSizeSpec)

/-- 'tricklelaw03.COBSNoAliasing', WHERE WHAT IT READS IS OF BULK AT MOST 1048576: true; the input reads as it did. -/
def cOBSNoAliasingUptoRow : OpenClaim := { program := "ytnlpckkaddpieaa", sum := "0ecb8452ea7fa9152f5ec72659e9292ec01b02e9652fe70c65fca845fce4206e", func := "trickle/tricklelaw03.COBSNoAliasing", spec := "cOBSNoAliasing", inPlace := ["internal/bytealg.IndexByte"], apart := false, narrowed := true }
def COBSNoAliasingUptoSaid : Prop := cOBSNoAliasingUptoRow.holds Try.pinned (OpenSpec.upto cOBSNoAliasingSpec)

/-- 'tricklelaw03.COBSSplitter', WHERE WHAT IT READS IS OF BULK AT MOST 1048576: true; the input reads as it did. -/
def cOBSSplitterUptoRow : OpenClaim := { program := "ytnlpckkaddpieaa", sum := "0ecb8452ea7fa9152f5ec72659e9292ec01b02e9652fe70c65fca845fce4206e", func := "trickle/tricklelaw03.COBSSplitter", spec := "cOBSSplitter", inPlace := ["internal/bytealg.IndexByte"], apart := false, narrowed := true }
def COBSSplitterUptoSaid : Prop := cOBSSplitterUptoRow.holds Try.pinned (OpenSpec.upto cOBSSplitterSpec)

end Rows
end Go.Proofs.Ytnlpckkaddpieaa
