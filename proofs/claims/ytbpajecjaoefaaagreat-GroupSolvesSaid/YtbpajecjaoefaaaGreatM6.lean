/- Texts of the machine V and of the proofs over it, one behind the other. -/
import Derived.Test.YtbpajecjaoefaaaGreatM4
set_option linter.unusedVariables false
set_option linter.unusedSimpArgs false
/- Is it simple? -/




namespace Go.Proofs.YtbpajecjaoefaaaGreat.V

open Go Go.RowKit Go.Sort Go.Proofs.Tryz

theorem t_Sim : (fe_Sim.F [LLI false false T6]) = some (eB false) := by kernel_rfl
end Go.Proofs.YtbpajecjaoefaaaGreat.V
