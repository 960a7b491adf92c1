-- Written by a program of this session (print2.sh: the kit's print, with functions given that are proved by hand). Not trusted: Lean checks it.
import Derived.Test.YtgdhbmdhgejnkaaProg
import Derived.Below
import Derived.Deep.Draws
import Derived.Deep.AppendLies
import Derived.Maps.AppendAt
import Derived.OwnWalk
import Derived.Laws.BytesArg
import Derived.Laws.MakeOwn
import Derived.Laws.OwnMore
import Derived.Deep.OwnRows
import Derived.Tactics
import Derived.Lib.ConvBytes
import Derived.Laws.Slices
import Derived.WalkKit
import Derived.KernelRfl
import Derived.RowKit3
import Derived.Deep.LoopGhost
import Derived.Deep.QuietTactic
import Derived.BigQuiet
import Derived.WideLaws
import Derived.Deep.DeepCutAuto
import Derived.Deep.CutBlock
import Derived.Deep.RegionHeld3
import Derived.Laws.Rows
import Derived.Lib.AppendStr
import Derived.ArgAppend
import Derived.Laws.IdiomCopy
import Derived.OrdersHeld
import Derived.Laws.BitsLemmas
import Derived.RowKit
import Derived.Test.YtgdhbmdhgejnkaaWWords
import Derived.Test.YtgdhbmdhgejnkaaWLast
import Derived.Test.YtgdhbmdhgejnkaaWTab
import Derived.Test.YtgdhbmdhgejnkaaWFour
import Derived.Test.YtgdhbmdhgejnkaaWQPut
import Derived.Test.YtgdhbmdhgejnkaaWApart
import Derived.Test.YtgdhbmdhgejnkaaWArr
import Derived.Test.YtgdhbmdhgejnkaaWZeros
import Derived.Test.YtgdhbmdhgejnkaaWFoot
import Derived.Test.YtgdhbmdhgejnkaaWKept
import Derived.Test.YtgdhbmdhgejnkaaWShare
import Derived.Test.YtgdhbmdhgejnkaaWN
import Derived.Test.YtgdhbmdhgejnkaaWFootNe
import Derived.Test.YtgdhbmdhgejnkaaWAt
import Derived.Test.YtgdhbmdhgejnkaaWEqStruct
import Derived.Test.YtgdhbmdhgejnkaaWRepsOne
import Derived.Test.YtgdhbmdhgejnkaaWInv
import Derived.Test.YtgdhbmdhgejnkaaWInvWords
import Derived.Test.YtgdhbmdhgejnkaaWGuard
import Derived.Test.YtgdhbmdhgejnkaaWNEv
import Derived.Test.YtgdhbmdhgejnkaaWMore
namespace Go.Proofs.Ytgdhbmdhgejnkaa.Fn
open Go.RowKit Go.Proofs.YtgdhbmdhgejnkaaW.PrintWords Go.Proofs.YtgdhbmdhgejnkaaW.PrintLast Go.Proofs.YtgdhbmdhgejnkaaW.PrintMore
attribute [local go_sem] max2_int min2_int max_two min_two max_three min_three max_four min_four   -- for this text's walks alone
set_option linter.unusedVariables false
set_option linter.unusedSimpArgs false



def errW : Option Int → Value
  | none => .nilIface
  | some c => .iface 0 (.int .i64 c)
theorem errW_none : errW none = .nilIface := rfl
theorem errW_some (c : Int) : errW (some c) = .iface 0 (.int .i64 c) := rfl

theorem info5 : (Try.prog.info? 5).map (fun i => (i.zero, i.size, i.bytes)) = some (some (.int .u8 0), 1, 1) := by kernel_rfl
-- the values' own types

end Go.Proofs.Ytgdhbmdhgejnkaa.Fn
