/- Each function that the laws of layer 4 call computes what its Lean function here says. Written by the kit's print.py (see wip/tools/fracprint.sh of this session); one proof, strings.Compare's, by hand. -/
import Derived.Test.YtpfnkibhpjoahaaProg
import Derived.Below
import Derived.Deep.Draws
import Derived.Deep.AppendLies
import Derived.Maps.AppendAt
import Derived.OwnWalk
import Derived.Laws.BytesArg
import Derived.Laws.MakeOwn
import Derived.Laws.OwnMore
import Derived.Deep.OwnRows
import Derived.Tactics
import Derived.Lib.ConvBytes
import Derived.Laws.Slices
import Derived.WalkKit
import Derived.KernelRfl
import Derived.RowKit3
import Derived.Deep.LoopGhost
import Derived.Deep.QuietTactic
import Derived.BigQuiet
import Derived.WideLaws
import Derived.Deep.DeepCutAuto
import Derived.Deep.CutBlock
import Derived.Deep.RegionHeld3
import Derived.Laws.Rows
import Derived.Lib.AppendStr
import Derived.ArgAppend
import Derived.Laws.IdiomCopy
import Derived.OrdersHeld
import Derived.Laws.BitsLemmas
import Derived.RowKit
import Derived.Test.YtpfnkibhpjoahaaShelf
import Derived.Test.YtpfnkibhpjoahaaWWords
import Derived.Test.YtpfnkibhpjoahaaWLast
import Derived.Test.YtpfnkibhpjoahaaWTab
import Derived.Test.YtpfnkibhpjoahaaWFour
import Derived.Test.YtpfnkibhpjoahaaWQPut
import Derived.Test.YtpfnkibhpjoahaaWApart
import Derived.Test.YtpfnkibhpjoahaaWArr
import Derived.Test.YtpfnkibhpjoahaaWZeros
import Derived.Test.YtpfnkibhpjoahaaWFoot
import Derived.Test.YtpfnkibhpjoahaaWKept
import Derived.Test.YtpfnkibhpjoahaaWShare
import Derived.Test.YtpfnkibhpjoahaaWN
import Derived.Test.YtpfnkibhpjoahaaWFootNe
import Derived.Test.YtpfnkibhpjoahaaWAt
import Derived.Test.YtpfnkibhpjoahaaWEqStruct
import Derived.Test.YtpfnkibhpjoahaaWRepsOne
import Derived.Test.YtpfnkibhpjoahaaWInv
import Derived.Test.YtpfnkibhpjoahaaWInvWords
import Derived.Test.YtpfnkibhpjoahaaWGuard
import Derived.Test.YtpfnkibhpjoahaaWNEv
import Derived.Test.YtpfnkibhpjoahaaWMore
namespace Go.Proofs.Ytpfnkibhpjoahaa.Q
open Go.RowKit Go.Proofs.YtpfnkibhpjoahaaW.PrintWords Go.Proofs.YtpfnkibhpjoahaaW.PrintLast Go.Proofs.YtpfnkibhpjoahaaW.PrintMore
attribute [local go_sem] max2_int min2_int max_two min_two max_three min_three max_four min_four   -- for this text's walks alone
set_option linter.unusedVariables false
set_option linter.unusedSimpArgs false



def errW : Option Int → Value
  | none => .nilIface
  | some c => .iface 0 (.int .i64 c)
theorem notEmpty_ne (l : List UInt8) : (!l.isEmpty) = (l != []) := by cases l <;> rfl
theorem errW_none : errW none = .nilIface := rfl
theorem errW_some (c : Int) : errW (some c) = .iface 0 (.int .i64 c) := rfl

theorem info5 : (Try.prog.info? 5).map (fun i => (i.zero, i.size, i.bytes)) = some (some (.int .u8 0), 1, 1) := by kernel_rfl
theorem info9 : (Try.prog.info? 9).map (fun i => (i.zero, i.size, i.bytes)) = some (some (.string ⟨#[]⟩), 1, 16) := by kernel_rfl
-- the values' own types

end Go.Proofs.Ytpfnkibhpjoahaa.Q
