/- Texts of the machine V and of the proofs over it, one behind the other. -/
import Derived.Test.YtbpajecjaoefaaaGreatM4
set_option linter.unusedVariables false
set_option linter.unusedSimpArgs false
/- Parts of its series. -/




namespace Go.Proofs.YtbpajecjaoefaaaGreat.V

open Go Go.RowKit Go.Sort Go.Proofs.Tryz

theorem t_w0 : fe_wth.F [gA false T6 0 [0, 1, 2, 4, 3, 5], LI false [0, 1, 2, 3, 4, 5]] = some (gA true T6 0 [0, 1, 2, 4, 3, 5]) := by kernel_rfl
theorem t_w1 : fe_wth.F [gA false T6 0 [0, 1, 2, 4, 3, 5], LI false [0, 3, 4]] = some (gA true T3 0 [0, 2, 1]) := by kernel_rfl
theorem t_m1 : fe_max.F [gA false T3 0 [0, 2, 1]] = some (LI true [0]) := by kernel_rfl
theorem t_q1 : fe_quo.F [gA false T3 0 [0, 2, 1], LI false [0]] = some (LLI true true T3) := by kernel_rfl
end Go.Proofs.YtbpajecjaoefaaaGreat.V
