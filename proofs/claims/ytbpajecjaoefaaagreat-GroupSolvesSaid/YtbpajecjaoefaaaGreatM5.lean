/- Texts of the machine V and of the proofs over it, one behind the other. -/
import Derived.Test.YtbpajecjaoefaaaGreatM4
set_option linter.unusedVariables false
set_option linter.unusedSimpArgs false
/- The group of three points, run. -/




namespace Go.Proofs.YtbpajecjaoefaaaGreat.V

open Go Go.RowKit Go.Sort Go.Proofs.Tryz

theorem t_three : fe_three.F [] = some (LLI true true T6) := by kernel_rfl
end Go.Proofs.YtbpajecjaoefaaaGreat.V
