-- Written by pr.py (a program of this proof) for the claim: the functions and their walks.
import Derived.Test.YtfjmopdkpcplmaaProg
import Derived.Test.YtfjmopdkpcplmaaXW
import Derived.Below
import Derived.Deep.Draws
import Derived.Deep.AppendLies
import Derived.Maps.AppendAt
import Derived.OwnWalk
import Derived.Laws.BytesArg
import Derived.Laws.MakeOwn
import Derived.Laws.OwnMore
import Derived.Deep.OwnRows
import Derived.Tactics
import Derived.Lib.ConvBytes
import Derived.Laws.Slices
import Derived.WalkKit
import Derived.KernelRfl
import Derived.RowKit3
import Derived.Deep.LoopGhost
import Derived.Deep.QuietTactic
import Derived.BigQuiet
import Derived.WideLaws
import Derived.Deep.DeepCutAuto
import Derived.Deep.CutBlock
import Derived.Deep.RegionHeld3
import Derived.Laws.Rows
import Derived.Lib.AppendStr
import Derived.ArgAppend
import Derived.Laws.IdiomCopy
import Derived.OrdersHeld
import Derived.Laws.BitsLemmas
import Derived.RowKit
import Derived.Test.YtfjmopdkpcplmaaWWords
import Derived.Test.YtfjmopdkpcplmaaWLast
import Derived.Test.YtfjmopdkpcplmaaWTab
import Derived.Test.YtfjmopdkpcplmaaWFour
import Derived.Test.YtfjmopdkpcplmaaWQPut
import Derived.Test.YtfjmopdkpcplmaaWApart
import Derived.Test.YtfjmopdkpcplmaaWArr
import Derived.Test.YtfjmopdkpcplmaaWZeros
import Derived.Test.YtfjmopdkpcplmaaWFoot
import Derived.Test.YtfjmopdkpcplmaaWKept
import Derived.Test.YtfjmopdkpcplmaaWShare
import Derived.Test.YtfjmopdkpcplmaaWN
import Derived.Test.YtfjmopdkpcplmaaWFootNe
import Derived.Test.YtfjmopdkpcplmaaWAt
import Derived.Test.YtfjmopdkpcplmaaWEqStruct
import Derived.Test.YtfjmopdkpcplmaaWRepsOne
import Derived.Test.YtfjmopdkpcplmaaWInv
import Derived.Test.YtfjmopdkpcplmaaWInvWords
import Derived.Test.YtfjmopdkpcplmaaWGuard
import Derived.Test.YtfjmopdkpcplmaaWNEv
import Derived.Test.YtfjmopdkpcplmaaWMore
namespace Go.Proofs.Ytfjmopdkpcplmaa.QWordPascal
open Go.RowKit Go.Proofs.YtfjmopdkpcplmaaW.PrintWords Go.Proofs.YtfjmopdkpcplmaaW.PrintLast Go.Proofs.YtfjmopdkpcplmaaW.PrintMore
attribute [local go_sem] Go.Proofs.Ytfjmopdkpcplmaa.XW.str_gtr Go.Proofs.Ytfjmopdkpcplmaa.XW.str_geq Go.Proofs.Ytfjmopdkpcplmaa.XW.str_leq Go.Proofs.Ytfjmopdkpcplmaa.XW.tmod_one
attribute [local go_sem] max2_int min2_int max_two min_two max_three min_three max_four min_four   -- for this text's walks alone
set_option linter.unusedVariables false
set_option linter.unusedSimpArgs false



def errW : Option Int → Value
  | none => .nilIface
  | some c => .iface 0 (.int .i64 c)
theorem errW_none : errW none = .nilIface := rfl
theorem errW_some (c : Int) : errW (some c) = .iface 0 (.int .i64 c) := rfl

theorem info3 : (Try.prog.info? 3).map (fun i => (i.zero, i.size, i.bytes)) = some (some (.int .i64 0), 1, 8) := by kernel_rfl
theorem info5 : (Try.prog.info? 5).map (fun i => (i.zero, i.size, i.bytes)) = some (some (.int .u8 0), 1, 1) := by kernel_rfl
-- the values' own types

end Go.Proofs.Ytfjmopdkpcplmaa.QWordPascal
