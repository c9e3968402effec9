/- Texts of the machine V and of the proofs over it, one behind the other. -/
import Derived.Test.YtbpajecjaoefaaaM3
set_option linter.unusedVariables false
set_option linter.unusedSimpArgs false
/- Is it simple? -/
namespace Go.Proofs.Ytbpajecjaoefaaa.V
open Go Go.RowKit Go.Sort Go.Proofs.Try
theorem t_Sim : (fe_Sim.F [LLI false false T6]) = some (eB false) := by kernel_rfl
end Go.Proofs.Ytbpajecjaoefaaa.V
