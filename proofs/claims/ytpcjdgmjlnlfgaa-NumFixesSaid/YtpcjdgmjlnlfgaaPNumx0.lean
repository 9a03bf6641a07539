/- Printed by a program of this session (drv.py) from the translation of this seat: functions, their contracts, rows. -/
import Derived.Test.YtpcjdgmjlnlfgaaProg
import Derived.Below
import Derived.Deep.Draws
import Derived.Deep.AppendLies
import Derived.Maps.AppendAt
import Derived.OwnWalk
import Derived.Laws.BytesArg
import Derived.Laws.MakeOwn
import Derived.Laws.OwnMore
import Derived.Deep.OwnRows
import Derived.Tactics
import Derived.Lib.ConvBytes
import Derived.Laws.Slices
import Derived.WalkKit
import Derived.KernelRfl
import Derived.RowKit3
import Derived.Deep.LoopGhost
import Derived.Deep.QuietTactic
import Derived.BigQuiet
import Derived.WideLaws
import Derived.Deep.DeepCutAuto
import Derived.Deep.CutBlock
import Derived.Deep.RegionHeld3
import Derived.Laws.Rows
import Derived.Lib.AppendStr
import Derived.ArgAppend
import Derived.Laws.IdiomCopy
import Derived.OrdersHeld
import Derived.Laws.BitsLemmas
import Derived.RowKit
import Derived.Test.YtpcjdgmjlnlfgaaWWords
import Derived.Test.YtpcjdgmjlnlfgaaWLast
import Derived.Test.YtpcjdgmjlnlfgaaWTab
import Derived.Test.YtpcjdgmjlnlfgaaWFour
import Derived.Test.YtpcjdgmjlnlfgaaWQPut
import Derived.Test.YtpcjdgmjlnlfgaaWApart
import Derived.Test.YtpcjdgmjlnlfgaaWArr
import Derived.Test.YtpcjdgmjlnlfgaaWZeros
import Derived.Test.YtpcjdgmjlnlfgaaWFoot
import Derived.Test.YtpcjdgmjlnlfgaaWKept
import Derived.Test.YtpcjdgmjlnlfgaaWShare
import Derived.Test.YtpcjdgmjlnlfgaaWN
import Derived.Test.YtpcjdgmjlnlfgaaWFootNe
import Derived.Test.YtpcjdgmjlnlfgaaWAt
import Derived.Test.YtpcjdgmjlnlfgaaWEqStruct
import Derived.Test.YtpcjdgmjlnlfgaaWRepsOne
import Derived.Test.YtpcjdgmjlnlfgaaWInv
import Derived.Test.YtpcjdgmjlnlfgaaWInvWords
import Derived.Test.YtpcjdgmjlnlfgaaWGuard
import Derived.Test.YtpcjdgmjlnlfgaaWNEv
import Derived.Test.YtpcjdgmjlnlfgaaWMore
namespace Go.Proofs.Ytpcjdgmjlnlfgaa.PNum
open Go.RowKit Go.Proofs.YtpcjdgmjlnlfgaaW.PrintWords Go.Proofs.YtpcjdgmjlnlfgaaW.PrintLast Go.Proofs.YtpcjdgmjlnlfgaaW.PrintMore
attribute [local go_sem] max2_int min2_int max_two min_two max_three min_three max_four min_four   -- for this text's walks alone
set_option linter.unusedVariables false
set_option linter.unusedSimpArgs false



def errW : Option Int → Value
  | none => .nilIface
  | some c => .iface 0 (.int .i64 c)
theorem errW_none : errW none = .nilIface := rfl
theorem errW_some (c : Int) : errW (some c) = .iface 0 (.int .i64 c) := rfl

theorem info3 : (Try.prog.info? 3).map (fun i => (i.zero, i.size, i.bytes)) = some (some (.int .i64 0), 1, 8) := by kernel_rfl
theorem info5 : (Try.prog.info? 5).map (fun i => (i.zero, i.size, i.bytes)) = some (some (.int .u8 0), 1, 1) := by kernel_rfl
theorem info22 : (Try.prog.info? 22).map (fun i => (i.zero, i.size, i.bytes)) = some (some (.int .u64 0), 1, 8) := by kernel_rfl
-- the values' own types

end Go.Proofs.Ytpcjdgmjlnlfgaa.PNum
