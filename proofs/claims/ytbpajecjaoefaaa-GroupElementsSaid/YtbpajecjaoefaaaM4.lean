/- Texts of the machine V and of the proofs over it, one behind the other. -/
import Derived.Test.YtbpajecjaoefaaaM3
set_option linter.unusedVariables false
set_option linter.unusedSimpArgs false
/- The group of three points, run. -/
namespace Go.Proofs.Ytbpajecjaoefaaa.V
open Go Go.RowKit Go.Sort Go.Proofs.Try
theorem t_three : fe_three.F [] = some (LLI true true T6) := by kernel_rfl
end Go.Proofs.Ytbpajecjaoefaaa.V
