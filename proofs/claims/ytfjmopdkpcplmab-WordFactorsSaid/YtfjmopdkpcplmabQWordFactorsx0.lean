-- Written by pr.py (a program of this proof) for the claim: the functions and their walks.
import Derived.Test.YtfjmopdkpcplmabProg
import Derived.Test.YtfjmopdkpcplmabXW
import Derived.Test.YtfjmopdkpcplmabXM
import Derived.Test.YtfjmopdkpcplmabShelf
import Derived.Test.YtfjmopdkpcplmabXS
import Derived.Below
import Derived.Deep.Draws
import Derived.Deep.AppendLies
import Derived.Maps.AppendAt
import Derived.OwnWalk
import Derived.Laws.BytesArg
import Derived.Laws.MakeOwn
import Derived.Laws.OwnMore
import Derived.Deep.OwnRows
import Derived.Tactics
import Derived.Lib.ConvBytes
import Derived.Laws.Slices
import Derived.WalkKit
import Derived.KernelRfl
import Derived.RowKit3
import Derived.Deep.LoopGhost
import Derived.Deep.QuietTactic
import Derived.BigQuiet
import Derived.WideLaws
import Derived.Deep.DeepCutAuto
import Derived.Deep.CutBlock
import Derived.Deep.RegionHeld3
import Derived.Laws.Rows
import Derived.Lib.AppendStr
import Derived.ArgAppend
import Derived.Laws.IdiomCopy
import Derived.OrdersHeld
import Derived.Laws.BitsLemmas
import Derived.RowKit
import Derived.Test.YtfjmopdkpcplmabWWords
import Derived.Test.YtfjmopdkpcplmabWLast
import Derived.Test.YtfjmopdkpcplmabWTab
import Derived.Test.YtfjmopdkpcplmabWFour
import Derived.Test.YtfjmopdkpcplmabWQPut
import Derived.Test.YtfjmopdkpcplmabWApart
import Derived.Test.YtfjmopdkpcplmabWArr
import Derived.Test.YtfjmopdkpcplmabWZeros
import Derived.Test.YtfjmopdkpcplmabWFoot
import Derived.Test.YtfjmopdkpcplmabWKept
import Derived.Test.YtfjmopdkpcplmabWShare
import Derived.Test.YtfjmopdkpcplmabWN
import Derived.Test.YtfjmopdkpcplmabWFootNe
import Derived.Test.YtfjmopdkpcplmabWAt
import Derived.Test.YtfjmopdkpcplmabWEqStruct
import Derived.Test.YtfjmopdkpcplmabWRepsOne
import Derived.Test.YtfjmopdkpcplmabWInv
import Derived.Test.YtfjmopdkpcplmabWInvWords
import Derived.Test.YtfjmopdkpcplmabWGuard
import Derived.Test.YtfjmopdkpcplmabWNEv
import Derived.Test.YtfjmopdkpcplmabWMore
namespace Go.Proofs.Ytfjmopdkpcplmab.QWordFactors
open Go.RowKit Go.Proofs.YtfjmopdkpcplmabW.PrintWords Go.Proofs.YtfjmopdkpcplmabW.PrintLast Go.Proofs.YtfjmopdkpcplmabW.PrintMore Go.Proofs.Ytfjmopdkpcplmab.XM
attribute [local go_sem] Go.Proofs.Ytfjmopdkpcplmab.XW.str_gtr Go.Proofs.Ytfjmopdkpcplmab.XW.str_geq Go.Proofs.Ytfjmopdkpcplmab.XW.str_leq Go.Proofs.Ytfjmopdkpcplmab.XW.tmod_one
attribute [local go_sem] max2_int min2_int max_two min_two max_three min_three max_four min_four   -- for this text's walks alone
set_option linter.unusedVariables false
set_option linter.unusedSimpArgs false



def errW : Option Int → Value
  | none => .nilIface
  | some c => .iface 0 (.int .i64 c)
theorem errW_none : errW none = .nilIface := rfl
theorem errW_some (c : Int) : errW (some c) = .iface 0 (.int .i64 c) := rfl

theorem mzero4 (w : World) : (zeroValue 4).run Try.prog w = .ok (.bool false) w := by kernel_rfl
theorem info5 : (Try.prog.info? 5).map (fun i => (i.zero, i.size, i.bytes)) = some (some (.int .u8 0), 1, 1) := by kernel_rfl
theorem info9 : (Try.prog.info? 9).map (fun i => (i.zero, i.size, i.bytes)) = some (some (.string ⟨#[]⟩), 1, 16) := by kernel_rfl
-- the values' own types

end Go.Proofs.Ytfjmopdkpcplmab.QWordFactors
