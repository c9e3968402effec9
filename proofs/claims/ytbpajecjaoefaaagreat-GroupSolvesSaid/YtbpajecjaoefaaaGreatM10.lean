/- Texts of the machine V and of the proofs over it, one behind the other. -/
import Derived.Test.YtbpajecjaoefaaaGreatM5
import Derived.Test.YtbpajecjaoefaaaGreatM6
import Derived.Test.YtbpajecjaoefaaaGreatM9
set_option linter.unusedVariables false
set_option linter.unusedSimpArgs false
/- awake. -/






namespace Go.Proofs.YtbpajecjaoefaaaGreat.V

open Go Go.RowKit Go.Sort Go.Proofs.Tryz

noncomputable def fe_three' : FE := fe_three.memo [([], LLI true true T6)]
theorem ok_three' : Fk prog fe_three'.ent := ok_memo ok_three fun p hp => by
  cases hp with
  | head => exact t_three
  | tail _ hp => cases hp
noncomputable def fe_fct' : FE := fe_fct.memo [([LLI false false T6], eL true 2 FA [(2, true), (3, true)])]
theorem ok_fct' : Fk prog fe_fct'.ent := ok_memo ok_fct fun p hp => by
  cases hp with
  | head => exact t_fct
  | tail _ hp => cases hp
noncomputable def fe_Sim' : FE := fe_Sim.memo [([LLI false false T6], eB false)]
theorem ok_Sim' : Fk prog fe_Sim'.ent := ok_memo ok_Sim fun p hp => by
  cases hp with
  | head => exact t_Sim
  | tail _ hp => cases hp
noncomputable def fe_awk : FE := ⟨F_law16_awake, false, fnRun [fe_three', fe_fct', fe_Sim'] [] 4000 C.law16.awake.top C.law16.awake.rs 26 0 false⟩
theorem ok_awk : Fk prog fe_awk.ent := C.law16.awake.fkS (es := ([fe_three', fe_fct', fe_Sim']).map FE.ent) (ss := ([]).map SE.spe) ⟨ok_three', ok_fct', ok_Sim', trivial⟩ trivial (fun a r h => fnRun_run h)
theorem t_awk : fe_awk.F [] = some (eB true) := by kernel_rfl
def R_awake (args : List AV) (r : AV) : Prop := args = [] ∧ r = eB true
theorem fk_awake : Fk prog ⟨F_law16_awake, false, R_awake⟩ := ⟨fun args r ⟨h1, h2⟩ => ok_awk.con args r (by subst h1; subst h2; exact t_awk), ok_awk.ent⟩
end Go.Proofs.YtbpajecjaoefaaaGreat.V
