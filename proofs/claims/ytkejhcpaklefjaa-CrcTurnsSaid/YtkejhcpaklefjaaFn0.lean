-- Written by a program of this session (print2.sh: the kit's print, with functions given that are proved by hand). Not trusted: Lean checks it.
import Derived.Test.YtkejhcpaklefjaaProg
import Derived.Below
import Derived.Deep.Draws
import Derived.Deep.AppendLies
import Derived.Maps.AppendAt
import Derived.OwnWalk
import Derived.Laws.BytesArg
import Derived.Laws.MakeOwn
import Derived.Laws.OwnMore
import Derived.Deep.OwnRows
import Derived.Tactics
import Derived.Lib.ConvBytes
import Derived.Laws.Slices
import Derived.WalkKit
import Derived.KernelRfl
import Derived.RowKit3
import Derived.Deep.LoopGhost
import Derived.Deep.QuietTactic
import Derived.BigQuiet
import Derived.WideLaws
import Derived.Deep.DeepCutAuto
import Derived.Deep.CutBlock
import Derived.Deep.RegionHeld3
import Derived.Laws.Rows
import Derived.Lib.AppendStr
import Derived.ArgAppend
import Derived.Laws.IdiomCopy
import Derived.OrdersHeld
import Derived.Laws.BitsLemmas
import Derived.RowKit
import Derived.Test.YtkejhcpaklefjaaWWords
import Derived.Test.YtkejhcpaklefjaaWLast
import Derived.Test.YtkejhcpaklefjaaWTab
import Derived.Test.YtkejhcpaklefjaaWFour
import Derived.Test.YtkejhcpaklefjaaWQPut
import Derived.Test.YtkejhcpaklefjaaWApart
import Derived.Test.YtkejhcpaklefjaaWArr
import Derived.Test.YtkejhcpaklefjaaWZeros
import Derived.Test.YtkejhcpaklefjaaWFoot
import Derived.Test.YtkejhcpaklefjaaWKept
import Derived.Test.YtkejhcpaklefjaaWShare
import Derived.Test.YtkejhcpaklefjaaWN
import Derived.Test.YtkejhcpaklefjaaWFootNe
import Derived.Test.YtkejhcpaklefjaaWAt
import Derived.Test.YtkejhcpaklefjaaWEqStruct
import Derived.Test.YtkejhcpaklefjaaWRepsOne
import Derived.Test.YtkejhcpaklefjaaWInv
import Derived.Test.YtkejhcpaklefjaaWInvWords
import Derived.Test.YtkejhcpaklefjaaWGuard
import Derived.Test.YtkejhcpaklefjaaWNEv
import Derived.Test.YtkejhcpaklefjaaWMore
namespace Go.Proofs.Ytkejhcpaklefjaa.Fn
open Go.RowKit Go.Proofs.YtkejhcpaklefjaaW.PrintWords Go.Proofs.YtkejhcpaklefjaaW.PrintLast Go.Proofs.YtkejhcpaklefjaaW.PrintMore
attribute [local go_sem] max2_int min2_int max_two min_two max_three min_three max_four min_four   -- for this text's walks alone
set_option linter.unusedVariables false
set_option linter.unusedSimpArgs false



def errW : Option Int → Value
  | none => .nilIface
  | some c => .iface 0 (.int .i64 c)
theorem errW_none : errW none = .nilIface := rfl
theorem errW_some (c : Int) : errW (some c) = .iface 0 (.int .i64 c) := rfl

theorem info5 : (Try.prog.info? 5).map (fun i => (i.zero, i.size, i.bytes)) = some (some (.int .u8 0), 1, 1) := by kernel_rfl
-- the values' own types

end Go.Proofs.Ytkejhcpaklefjaa.Fn
