/- Texts of the machine V and of the proofs over it, one behind the other. -/
import Derived.Test.YtbpajecjaoefaaaGreatM7
import Derived.Test.YtbpajecjaoefaaaGreatM8
set_option linter.unusedVariables false
set_option linter.unusedSimpArgs false
/- Its series and its factors. -/





namespace Go.Proofs.YtbpajecjaoefaaaGreat.V

open Go Go.RowKit Go.Sort Go.Proofs.Tryz

noncomputable def fe_of2 : FE := fe_of.memo [([LLI false false T6], .tup [g6, eB true])]
theorem ok_of2 : Fk prog fe_of2.ent := ok_memo ok_of fun p hp => by
  cases hp with
  | head => exact t_of
  | tail _ hp =>
    cases hp
noncomputable def fe_wth2 : FE := fe_wth.memo [([gA false T6 0 [0, 1, 2, 4, 3, 5], LI false [0, 1, 2, 3, 4, 5]], gA true T6 0 [0, 1, 2, 4, 3, 5]), ([gA false T6 0 [0, 1, 2, 4, 3, 5], LI false [0, 3, 4]], gA true T3 0 [0, 2, 1])]
theorem ok_wth2 : Fk prog fe_wth2.ent := ok_memo ok_wth fun p hp => by
  cases hp with
  | head => exact t_w0
  | tail _ hp =>
    cases hp with
    | head => exact t_w1
    | tail _ hp =>
      cases hp
noncomputable def fe_max2 : FE := ⟨F_group_group_maximal, false, fun a => memo a [([gA false T6 0 [0, 1, 2, 4, 3, 5]], LI true [0, 3, 4]), ([gA false T3 0 [0, 2, 1]], LI true [0])]⟩
def R_max6 (a : List AV) (r : AV) : Prop := fe_max0.F a = some r ∨ fe_max.F a = some r
theorem con_or {P : Program} {f : Nat} {l : Bool} {F G : List AV → Option AV} (h : Fk P (FE.ent ⟨f, l, F⟩)) (k : Fk P (FE.ent ⟨f, l, G⟩)) {K : List AV → Option AV} (hK : ∀ a r, K a = some r → F a = some r ∨ G a = some r) : Fk P (FE.ent ⟨f, l, K⟩) :=
  ⟨fun args r hR => (hK args r hR).elim (fun e => h.con args r e) (fun e => k.con args r e), h.ent⟩
theorem memo_mem {a : List AV} {r : AV} : ∀ {tbl : List (List AV × AV)}, memo a tbl = some r → (a, r) ∈ tbl
  | [], h => by cases h
  | p :: tbl, h => by
    simp only [memo] at h
    split at h
    · rename_i e
      injection h with h; subst h
      rw [beqL_eq (beqV_eq 12) e]; exact List.mem_cons_self ..
    · exact List.mem_cons_of_mem _ (memo_mem h)
theorem ok_max2 : Fk prog fe_max2.ent := con_or (F := fe_max0.F) (G := fe_max.F) ok_max0 ok_max fun a r h => by
  have h := memo_mem h
  cases h with
  | head => exact .inl t_m0
  | tail _ h =>
    cases h with
    | head => exact .inr t_m1
    | tail _ h => cases h
noncomputable def fe_quo2 : FE := fe_quo.memo [([gA false T6 0 [0, 1, 2, 4, 3, 5], LI false [0, 3, 4]], LLI true true [[0, 1], [1, 0]]), ([gA false T3 0 [0, 2, 1], LI false [0]], LLI true true T3)]
theorem ok_quo2 : Fk prog fe_quo2.ent := ok_memo ok_quo fun p hp => by
  cases hp with
  | head => exact t_q0
  | tail _ hp =>
    cases hp with
    | head => exact t_q1
    | tail _ hp =>
      cases hp
noncomputable def fe_ser2 : FE := ⟨F_group_Series, false, fnRun [fe_of2, fe_all, fe_wth2, fe_max2] [] 4000 C.group.Series.top C.group.Series.rs 51 7 false⟩
theorem ok_ser2 : Fk prog fe_ser2.ent := C.group.Series.fkS (es := ([fe_of2, fe_all, fe_wth2, fe_max2]).map FE.ent) (ss := ([]).map SE.spe) ⟨ok_of2, ok_all, ok_wth2, ok_max2, trivial⟩ trivial (fun a r h => fnRun_run h)
theorem t_ser : (fe_ser2.F [LLI false false T6]) = some (LLI true true [[0, 1, 2, 3, 4, 5], [0, 3, 4], [0]]) := by kernel_rfl
noncomputable def fe_ser3 : FE := fe_ser2.memo [([LLI false false T6], LLI true true [[0, 1, 2, 3, 4, 5], [0, 3, 4], [0]])]
theorem ok_ser3 : Fk prog fe_ser3.ent := ok_memo ok_ser2 fun p hp => by
  cases hp with
  | head => exact t_ser
  | tail _ hp =>
    cases hp
noncomputable def fe_fct : FE := ⟨F_group_Factors, false, fnRun [fe_of2, fe_ser3, fe_wth2, fe_quo2] [se_fac] 4000 C.group.Factors.top C.group.Factors.rs 118 8 false⟩
theorem ok_fct : Fk prog fe_fct.ent := C.group.Factors.fkS (es := ([fe_of2, fe_ser3, fe_wth2, fe_quo2]).map FE.ent) (ss := ([se_fac]).map SE.spe) ⟨ok_of2, ok_ser3, ok_wth2, ok_quo2, trivial⟩ ⟨ok_fac, trivial⟩ (fun a r h => fnRun_run h)
theorem t_fct : (fe_fct.F [LLI false false T6]) = some (eL true 2 FA [(2, true), (3, true)]) := by kernel_rfl
end Go.Proofs.YtbpajecjaoefaaaGreat.V
