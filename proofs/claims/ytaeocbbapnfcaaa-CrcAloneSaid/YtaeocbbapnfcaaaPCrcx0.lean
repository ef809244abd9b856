/- Functions of the program, each with the machine's call that does what it says; laid by a program of this session over the kit's printer. -/
import Derived.Test.YtaeocbbapnfcaaaProg
import Derived.Below
import Derived.Deep.Draws
import Derived.Deep.AppendLies
import Derived.Maps.AppendAt
import Derived.OwnWalk
import Derived.Laws.BytesArg
import Derived.Laws.MakeOwn
import Derived.Laws.OwnMore
import Derived.Deep.OwnRows
import Derived.Tactics
import Derived.Lib.ConvBytes
import Derived.Laws.Slices
import Derived.WalkKit
import Derived.KernelRfl
import Derived.RowKit3
import Derived.Deep.LoopGhost
import Derived.Deep.QuietTactic
import Derived.BigQuiet
import Derived.WideLaws
import Derived.Deep.DeepCutAuto
import Derived.Deep.CutBlock
import Derived.Deep.RegionHeld3
import Derived.Laws.Rows
import Derived.Lib.AppendStr
import Derived.ArgAppend
import Derived.Laws.IdiomCopy
import Derived.OrdersHeld
import Derived.Laws.BitsLemmas
import Derived.RowKit
import Derived.Test.YtaeocbbapnfcaaaCrcWalk
import Derived.Test.YtaeocbbapnfcaaaWWords
import Derived.Test.YtaeocbbapnfcaaaWLast
import Derived.Test.YtaeocbbapnfcaaaWTab
import Derived.Test.YtaeocbbapnfcaaaWFour
import Derived.Test.YtaeocbbapnfcaaaWQPut
import Derived.Test.YtaeocbbapnfcaaaWApart
import Derived.Test.YtaeocbbapnfcaaaWArr
import Derived.Test.YtaeocbbapnfcaaaWZeros
import Derived.Test.YtaeocbbapnfcaaaWFoot
import Derived.Test.YtaeocbbapnfcaaaWKept
import Derived.Test.YtaeocbbapnfcaaaWShare
import Derived.Test.YtaeocbbapnfcaaaWN
import Derived.Test.YtaeocbbapnfcaaaWFootNe
import Derived.Test.YtaeocbbapnfcaaaWAt
import Derived.Test.YtaeocbbapnfcaaaWEqStruct
import Derived.Test.YtaeocbbapnfcaaaWRepsOne
import Derived.Test.YtaeocbbapnfcaaaWInv
import Derived.Test.YtaeocbbapnfcaaaWInvWords
import Derived.Test.YtaeocbbapnfcaaaWGuard
import Derived.Test.YtaeocbbapnfcaaaWNEv
import Derived.Test.YtaeocbbapnfcaaaWMore
namespace Go.Proofs.Ytaeocbbapnfcaaa.PCrc
open Go.RowKit Go.Proofs.YtaeocbbapnfcaaaW.PrintWords Go.Proofs.YtaeocbbapnfcaaaW.PrintLast Go.Proofs.YtaeocbbapnfcaaaW.PrintMore
attribute [local go_sem] max2_int min2_int max_two min_two max_three min_three max_four min_four   -- for this text's walks alone
set_option linter.unusedVariables false
set_option linter.unusedSimpArgs false



def errW : Option Int → Value
  | none => .nilIface
  | some c => .iface 0 (.int .i64 c)
theorem errW_none : errW none = .nilIface := rfl
theorem errW_some (c : Int) : errW (some c) = .iface 0 (.int .i64 c) := rfl

theorem info5 : (Try.prog.info? 5).map (fun i => (i.zero, i.size, i.bytes)) = some (some (.int .u8 0), 1, 1) := by kernel_rfl
-- the values' own types

end Go.Proofs.Ytaeocbbapnfcaaa.PCrc
