-- Written by a program of this session for this claim.
import Derived.Test.YtjblfldgeemciaaProg
import Derived.Below
import Derived.Deep.Draws
import Derived.Deep.AppendLies
import Derived.Maps.AppendAt
import Derived.OwnWalk
import Derived.Laws.BytesArg
import Derived.Laws.MakeOwn
import Derived.Laws.OwnMore
import Derived.Deep.OwnRows
import Derived.Tactics
import Derived.Lib.ConvBytes
import Derived.Laws.Slices
import Derived.WalkKit
import Derived.KernelRfl
import Derived.RowKit3
import Derived.Deep.LoopGhost
import Derived.Deep.QuietTactic
import Derived.BigQuiet
import Derived.WideLaws
import Derived.Deep.DeepCutAuto
import Derived.Deep.CutBlock
import Derived.Deep.RegionHeld3
import Derived.Laws.Rows
import Derived.Lib.AppendStr
import Derived.ArgAppend
import Derived.Laws.IdiomCopy
import Derived.OrdersHeld
import Derived.Laws.BitsLemmas
import Derived.RowKit
import Derived.Deep.RegionHeld3
import Derived.Test.YtjblfldgeemciaaWWords
import Derived.Test.YtjblfldgeemciaaWLast
import Derived.Test.YtjblfldgeemciaaWTab
import Derived.Test.YtjblfldgeemciaaWFour
import Derived.Test.YtjblfldgeemciaaWQPut
import Derived.Test.YtjblfldgeemciaaWApart
import Derived.Test.YtjblfldgeemciaaWArr
import Derived.Test.YtjblfldgeemciaaWZeros
import Derived.Test.YtjblfldgeemciaaWFoot
import Derived.Test.YtjblfldgeemciaaWKept
import Derived.Test.YtjblfldgeemciaaWShare
import Derived.Test.YtjblfldgeemciaaWN
import Derived.Test.YtjblfldgeemciaaWFootNe
import Derived.Test.YtjblfldgeemciaaWAt
import Derived.Test.YtjblfldgeemciaaWEqStruct
import Derived.Test.YtjblfldgeemciaaWRepsOne
import Derived.Test.YtjblfldgeemciaaWInv
import Derived.Test.YtjblfldgeemciaaWInvWords
import Derived.Test.YtjblfldgeemciaaWGuard
import Derived.Test.YtjblfldgeemciaaWNEv
import Derived.Test.YtjblfldgeemciaaWMore
namespace Go.Proofs.Ytjblfldgeemciaa.Pq
open Go.RowKit Go.Proofs.YtjblfldgeemciaaW.PrintWords Go.Proofs.YtjblfldgeemciaaW.PrintLast Go.Proofs.YtjblfldgeemciaaW.PrintMore
attribute [local go_sem] max2_int min2_int max_two min_two max_three min_three max_four min_four   -- for this text's walks alone
set_option linter.unusedVariables false
set_option linter.unusedSimpArgs false



def errW : Option Int → Value
  | none => .nilIface
  | some c => .iface 0 (.int .i64 c)
theorem errW_none : errW none = .nilIface := rfl
theorem errW_some (c : Int) : errW (some c) = .iface 0 (.int .i64 c) := rfl

theorem info2 : (Try.prog.info? 2).map (fun i => (i.zero, i.size, i.bytes)) = some (some (.int .i64 0), 1, 8) := by kernel_rfl
theorem info4 : (Try.prog.info? 4).map (fun i => (i.zero, i.size, i.bytes)) = some (some (.bool false), 1, 1) := by kernel_rfl
theorem info49 : (Try.prog.info? 49).map (fun i => (i.zero, i.size, i.bytes)) = some (some (.int .i16 0), 1, 2) := by kernel_rfl
-- the values' own types

end Go.Proofs.Ytjblfldgeemciaa.Pq
