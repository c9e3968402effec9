/- Texts of the machine V and of the proofs over it, one behind the other. -/
import Derived.Test.YtbpajecjaoefaaaGreatM4
set_option linter.unusedVariables false
set_option linter.unusedSimpArgs false
/- Its greatest normal subgroup. -/




namespace Go.Proofs.YtbpajecjaoefaaaGreat.V

open Go Go.RowKit Go.Sort Go.Proofs.Tryz

theorem t_c0 : fe_clo.F [gA false T6 0 [0, 1, 2, 4, 3, 5], LI false [0, 0]] = some (LI true [0]) := by kernel_rfl
theorem t_c1 : fe_clo.F [gA false T6 0 [0, 1, 2, 4, 3, 5], LI false [0, 1]] = some (LI true [0, 1, 2, 3, 4, 5]) := by kernel_rfl
theorem t_c2 : fe_clo.F [gA false T6 0 [0, 1, 2, 4, 3, 5], LI false [0, 2]] = some (LI true [0, 1, 2, 3, 4, 5]) := by kernel_rfl
theorem t_c3 : fe_clo.F [gA false T6 0 [0, 1, 2, 4, 3, 5], LI false [0, 3]] = some (LI true [0, 3, 4]) := by kernel_rfl
theorem t_c4 : fe_clo.F [gA false T6 0 [0, 1, 2, 4, 3, 5], LI false [0, 3, 4, 4]] = some (LI true [0, 3, 4]) := by kernel_rfl
theorem t_c5 : fe_clo.F [gA false T6 0 [0, 1, 2, 4, 3, 5], LI false [0, 3, 4, 5]] = some (LI true [0, 1, 2, 3, 4, 5]) := by kernel_rfl
noncomputable def fe_clo2 : FE := fe_clo.memo [([gA false T6 0 [0, 1, 2, 4, 3, 5], LI false [0, 0]], LI true [0]), ([gA false T6 0 [0, 1, 2, 4, 3, 5], LI false [0, 1]], LI true [0, 1, 2, 3, 4, 5]), ([gA false T6 0 [0, 1, 2, 4, 3, 5], LI false [0, 2]], LI true [0, 1, 2, 3, 4, 5]), ([gA false T6 0 [0, 1, 2, 4, 3, 5], LI false [0, 3]], LI true [0, 3, 4]), ([gA false T6 0 [0, 1, 2, 4, 3, 5], LI false [0, 3, 4, 4]], LI true [0, 3, 4]), ([gA false T6 0 [0, 1, 2, 4, 3, 5], LI false [0, 3, 4, 5]], LI true [0, 1, 2, 3, 4, 5])]
theorem ok_clo2 : Fk prog fe_clo2.ent := ok_memo ok_clo fun p hp => by
  cases hp with
  | head => exact t_c0
  | tail _ hp =>
    cases hp with
    | head => exact t_c1
    | tail _ hp =>
      cases hp with
      | head => exact t_c2
      | tail _ hp =>
        cases hp with
        | head => exact t_c3
        | tail _ hp =>
          cases hp with
          | head => exact t_c4
          | tail _ hp =>
            cases hp with
            | head => exact t_c5
            | tail _ hp =>
              cases hp
noncomputable def fe_max0 : FE := ⟨F_group_group_maximal, false, fnRun [fe_clo2] [] 4000 C.group.group.maximal.top C.group.group.maximal.rs 32 4 false⟩
theorem ok_max0 : Fk prog fe_max0.ent := C.group.group.maximal.fkS (es := ([fe_clo2]).map FE.ent) (ss := ([]).map SE.spe) ⟨ok_clo2, trivial⟩ trivial (fun a r h => fnRun_run h)
theorem t_m0 : fe_max0.F [gA false T6 0 [0, 1, 2, 4, 3, 5]] = some (LI true [0, 3, 4]) := by kernel_rfl
theorem t_q0 : fe_quo.F [gA false T6 0 [0, 1, 2, 4, 3, 5], LI false [0, 3, 4]] = some (LLI true true [[0, 1], [1, 0]]) := by kernel_rfl
theorem t_of : fe_of.F [LLI false false T6] = some (.tup [g6, eB true]) := by kernel_rfl
end Go.Proofs.YtbpajecjaoefaaaGreat.V
