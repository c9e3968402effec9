/- The row of GroupSolves, out of the contract of its function. Conditions: none but those of the given statement. -/
import Derived.Test.YtbpajecjaoefaaaGreatRows
import Derived.Test.YtbpajecjaoefaaaGreatChecked
import Derived.Test.YtbpajecjaoefaaaGreatM2
import Derived.Test.YtbpajecjaoefaaaGreatM4
import Derived.Test.YtbpajecjaoefaaaGreatM10
import Derived.WalkKit
import Derived.ProofKit
import Derived.OpenShut
import Derived.ShutString
import Derived.ChangeOld
import Derived.Below
import Derived.SizedLaws
namespace Go.Proofs.YtbpajecjaoefaaaGreat.groupSolves
open Go.ChangeShapes Go.WideShapes Go.ChangeAt Go.RowKit Go.Deep
open Go.ChangeMaps (open_string shut_string)
open Go.Proofs.YtbpajecjaoefaaaGreat.V
set_option linter.unusedVariables false
theorem own : ownKnob Tryz.prog.godebug = none := by kernel_rfl
theorem laidOut : laidOutB Tryz.prog = true := by kernel_rfl
set_option maxRecDepth 100000 in
theorem lifted (os : Os) (started : os.Started) (H : Type) (enc : TypeId × Value → H) :
    ReturnsInHanded {} Tryz.checked os 3 .any (Rows.groupSolvesSpec.pre6 enc Tryz.prog Tryz.f3 Rows.groupSolvesRow.domain false) (Rows.groupSolvesSpec.post enc Tryz.prog Tryz.f3 false true false false) := by
  refine returnsInHanded_of_change_sized (C := Tryz.checked) own started (by kernel_rfl) Tryz.func3
    (ChangeSpec.witness6 (enc := enc) (C := Tryz.checked) false ⟨#[], #[.slice none 0 0], []⟩ 8 (by kernel_rfl) (by kernel_rfl) (by kernel_rfl) (by kernel_rfl)) ?_
  intro W base args ds gs before hval0 hW hcnd hsz0 _
  have hsz : (DataW.weightsEach Tryz.prog (Tryz.f3.params.toList ++ Rows.groupSolvesSpec.plain.varTypes Tryz.prog) (ds ++ gs)).all (· ≤ reachBytes) = true := hsz0
  have hval : ∀ (j : Nat) t v, Tryz.f3.params[j]? = some t → args[j]? = some v → Value.okWide Tryz.prog W .any base t v := hval0
  have hW' := hW
  obtain ⟨p, q, hA0, hV, rfl, hfz, hnd⟩ := hW
  have hA : DataW.TrodAll enc Tryz.prog W 0 (fun _ => true) true Tryz.f3.params.toList args.toList ds p := hA0
  rw [Tryz.params3] at hA hval hsz
  obtain ⟨v0, vs0, d0, ds0, p0, q0, hargs, rfl, rfl, h0, r0⟩ := trodAll_cons hA
  obtain ⟨rfl, rfl, rfl⟩ := trodAll_nil r0
  obtain rfl : args = #[v0] := by cases args; simp_all
  obtain ⟨rfl, rfl⟩ := trodVars_none hV
  obtain ⟨a0, len0, cap0, rfl⟩ := okWide_slice Tryz.underlying22 (hval 0 22 v0 rfl rfl)
  have k0 := h0
  have lt0 : ∀ x ∈ p0, x.block < W.heap.size := by obtain ⟨m, hm⟩ := k0; exact DataW.trod_lt m _ _ _ hm
  obtain ⟨l0, c0, z0⟩ := opened_LLI (s0 := W.heap.size) Tryz.underlying22 Tryz.underlying26 Tryz.underlying3 (by kernel_rfl) (by kernel_rfl) h0
  have w0 : l0.length < 35184372088832 ∧ ∀ x ∈ l0, x.length < 70368744177664 := by
    rcases z0 with ⟨_, rfl⟩ | ⟨A, L, Z, rest, rfl, hl, hi⟩
    · exact ⟨by decide, fun x hx => by cases hx⟩
    · have hb : Tryz.prog.bytesOf 26 = 24 := by kernel_rfl
      have hb2 : Tryz.prog.bytesOf 3 = 8 := by kernel_rfl
      have r := reachBytes_lt
      refine ⟨?_, fun x hx => ?_⟩
      · have z := sized_slice hsz (j := 0) (t := 22) rfl rfl Tryz.underlying22
        rw [hb] at z
        simp only [List.length_map, List.length_range] at z
        omega
      · obtain ⟨j, hj⟩ := List.mem_iff_getElem?.1 hx
        have hjl : j < len0 := by have := (List.getElem?_eq_some_iff.1 hj).1; omega
        obtain ⟨h1, h2, h3⟩ := hi j x hj
        exact inner_len hsz (j := 0) (t := 22) rfl rfl Tryz.underlying22 Tryz.underlying26 hb2 hjl h1 h2 h3
  clear hA0 hval0 hsz0 hsz
  have hcs : Cs (allX W) W.heap.size H0 [LLI false false l0] (#[.slice a0 len0 cap0] : Array Value).toList := Cs.cons c0 (Cs.nil)
  refine ((fk_GroupSolves fk_awake).con _ (eB true) (⟨l0, by omega, rfl, rfl⟩) (allX W) W _ (fun b o v h => h) hcs).mono fun e W' ⟨u, Y, he, _, hC, bel, _⟩ => ?_
  subst he
  cases hC
  exact ⟨_, rfl, _, _, _, [], _, [], hW', trodAll_mk1 (shut_bool Tryz.underlying4 _), (trodAll_cons_mk (Below.trod laidOut (by kernel_rfl) (of_decide_eq_true (by kernel_rfl)) k0 bel lt0) trodAll_mk0), rfl, bel.frame _, fun h => by cases h⟩
theorem over : Rows.groupSolvesRow.holds Tryz.pinned (OpenSpec.ofChange Rows.groupSolvesSpec) :=
  OpenClaim.holds_of_wide 3 Tryz.f3 rfl rfl rfl rfl rfl rfl rfl ⟨rfl, rfl, rfl, rfl, rfl⟩ rfl rfl rfl rfl rfl (by kernel_rfl) Tryz.func3 (by kernel_rfl)
    (of_decide_eq_true (by kernel_rfl)) (by unfold Func.isWrapper; first | (rw [if_pos (by decide +kernel)]; kernel_rfl) | (rw [if_neg (by decide +kernel)]; exact ⟨rfl, rfl⟩))
    (fun os started H enc _ => lifted os started H enc)
theorem proved : Rows.GroupSolvesSaid := over
#print axioms proved
end Go.Proofs.YtbpajecjaoefaaaGreat.groupSolves
namespace Go.Proofs.YtbpajecjaoefaaaGreat
/-- The row, under a short name, for the claim. -/
theorem groupSolves_holds : Rows.GroupSolvesSaid := groupSolves.proved
end Go.Proofs.YtbpajecjaoefaaaGreat
