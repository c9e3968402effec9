/- The row of GroupClosures, out of the contract of its function. Conditions: none but those of the given statement. -/
import Derived.Test.YtbpajecjaoefaaaGreatRows
import Derived.Test.YtbpajecjaoefaaaGreatChecked
import Derived.Test.YtbpajecjaoefaaaGreatM2
import Derived.Test.YtbpajecjaoefaaaGreatM4
import Derived.Test.YtbpajecjaoefaaaGreatM10
import Derived.WalkKit
import Derived.ProofKit
import Derived.OpenShut
import Derived.ShutString
import Derived.ChangeOld
import Derived.Below
import Derived.SizedLaws
import Derived.JoinedCond
namespace Go.Proofs.YtbpajecjaoefaaaGreat.groupClosures
open Go.ChangeShapes Go.WideShapes Go.ChangeAt Go.RowKit Go.Deep
open Go.ChangeMaps (open_string shut_string)
open Go.Proofs.YtbpajecjaoefaaaGreat.V
set_option linter.unusedVariables false
theorem own : ownKnob Tryz.prog.godebug = none := by kernel_rfl
theorem laidOut : laidOutB Tryz.prog = true := by kernel_rfl
theorem bulk_pos {H : Type} (d : DataW H) : 1 ≤ Rows.uptoBulk d := by
  cases d with
  | lit l => cases l <;> simp [Rows.uptoBulk]
  | _ => simp [Rows.uptoBulk]
theorem bulk_len {H : Type} : ∀ ds : List (DataW H), ds.length ≤ Rows.uptoBulkAll ds
  | [] => Nat.zero_le _
  | d :: ds => by have h := bulk_len ds; have h2 := bulk_pos d; simp only [Rows.uptoBulkAll, List.length_cons]; omega
theorem bulk_mem {H : Type} {d : DataW H} : ∀ {ds : List (DataW H)}, d ∈ ds → Rows.uptoBulk d ≤ Rows.uptoBulkAll ds
  | x :: ds, h => by
    simp only [Rows.uptoBulkAll]
    rcases List.mem_cons.1 h with rfl | h
    · omega
    · have := bulk_mem h; omega
theorem bulk_slice {H : Type} {es rest ds : List (DataW H)} (h : DataW.slice es rest ∈ ds) : es.length ≤ Rows.uptoBulkAll ds ∧ ∀ e ∈ es, Rows.uptoBulk e ≤ Rows.uptoBulkAll ds := by
  have h1 := bulk_mem h
  simp only [Rows.uptoBulk] at h1
  exact ⟨by have := bulk_len es; omega, fun e he => by have := bulk_mem he; omega⟩
theorem up_slice {H : Type} {es rest ds : List (DataW H)} {i : Nat} (hb : Rows.uptoBulkAll ds ≤ 1048576) (h : ds[i]? = some (.slice es rest)) : es.length ≤ 1048576 ∧ ∀ e ∈ es, Rows.uptoBulk e ≤ 1048576 := by
  have h1 := bulk_slice (List.mem_of_getElem? h)
  exact ⟨Nat.le_trans h1.1 hb, fun e he => Nat.le_trans (h1.2 e he) hb⟩
theorem bulk_row {H : Type} {A : Option Addr} {L : Nat} {Z : List Int} (h : A = none → L = 0) (h2 : L ≤ Z.length) : L ≤ Rows.uptoBulk (intRow .i64 A L Z : DataW H) := by
  cases A with
  | none => rw [h rfl]; exact Nat.zero_le _
  | some a => simp only [intRow, Rows.uptoBulk]; have := bulk_len (H := H) (lits .i64 (Z.take L)); simp only [lits, List.length_map, List.length_take] at this; simp only [lits]; omega
set_option maxRecDepth 100000 in
theorem lifted (os : Os) (started : os.Started) (H : Type) (enc : TypeId × Value → H) (F : Stop.Interp) :
    ReturnsInHanded {} Tryz.checked os 4 .any ((Rows.OpenSpec.upto Rows.groupClosuresSpec).pre6 enc Tryz.prog Tryz.f4 Rows.groupClosuresUptoRow.domain false) (((Rows.OpenSpec.upto Rows.groupClosuresSpec).at F).post enc Tryz.prog Tryz.f4 false true false false) := by
  refine returnsInHanded_of_cond (C := Tryz.checked) (s := Rows.OpenSpec.upto Rows.groupClosuresSpec) (k := Rows.uptoSmall) rfl own started (by kernel_rfl) Tryz.func4
    (OpenSpec.witness (enc := enc) (C := Tryz.checked) (s := Rows.OpenSpec.upto Rows.groupClosuresSpec) (k := Rows.uptoSmall) rfl false ⟨#[], #[.slice none 0 0, .slice none 0 0], []⟩ 8 (by kernel_rfl) (by kernel_rfl) (by kernel_rfl)
      (x := ([.nil, .nil], [], [])) (by kernel_rfl) rfl (by kernel_rfl)) ?_
  intro W base args ds gs before hval0 hW _ hk0 _
  have hval : ∀ (j : Nat) t v, Tryz.f4.params[j]? = some t → args[j]? = some v → Value.okWide Tryz.prog W .any base t v := hval0
  have hW' := hW
  obtain ⟨p, q, hA0, hV, rfl, hfz, hnd⟩ := hW
  have hA : DataW.TrodAll enc Tryz.prog W 0 (fun _ => true) true Tryz.f4.params.toList args.toList ds p := hA0
  rw [Tryz.params4] at hA hval
  obtain ⟨v0, vs0, d0, ds0, p0, q0, hargs, rfl, rfl, h0, r0⟩ := trodAll_cons hA
  obtain ⟨v1, vs1, d1, ds1, p1, q1, rfl, rfl, rfl, h1, r1⟩ := trodAll_cons r0
  obtain ⟨rfl, rfl, rfl⟩ := trodAll_nil r1
  obtain rfl : args = #[v0, v1] := by cases args; simp_all
  obtain ⟨rfl, rfl⟩ := trodVars_none hV
  have hb : Rows.uptoBulkAll (_ : List (DataW H)) ≤ 1048576 := of_decide_eq_true hk0
  obtain ⟨a0, len0, cap0, rfl⟩ := okWide_slice Tryz.underlying22 (hval 0 22 v0 rfl rfl)
  have k0 := h0
  have lt0 : ∀ x ∈ p0, x.block < W.heap.size := by obtain ⟨m, hm⟩ := k0; exact DataW.trod_lt m _ _ _ hm
  obtain ⟨l0, c0, z0⟩ := opened_LLI (s0 := W.heap.size) Tryz.underlying22 Tryz.underlying26 Tryz.underlying3 (by kernel_rfl) (by kernel_rfl) h0
  have w0 : l0.length ≤ 1048576 ∧ ∀ x ∈ l0, x.length ≤ 1048576 := by
    rcases z0 with ⟨_, rfl⟩ | ⟨A, L, Z, rest, rfl, hl, hi⟩
    · exact ⟨by decide, fun x hx => by cases hx⟩
    · have hs := up_slice (es := (List.range len0).map fun r => intRow .i64 (A r) (L r) (Z r)) (rest := rest) (i := 0) hb rfl
      refine ⟨Nat.le_trans ?_ hs.1, fun x hx => ?_⟩
      · simp [hl]
      · obtain ⟨j, hj⟩ := List.mem_iff_getElem?.1 hx
        have hjl : j < len0 := by have := (List.getElem?_eq_some_iff.1 hj).1; omega
        obtain ⟨h1, h2, h3⟩ := hi j x hj
        rw [h1]
        exact Nat.le_trans (bulk_row h2 h3) (hs.2 _ (List.mem_map.2 ⟨j, List.mem_range.2 hjl, rfl⟩))
  obtain ⟨a1, len1, cap1, rfl⟩ := okWide_slice Tryz.underlying26 (hval 1 26 v1 rfl rfl)
  have k1 := h1
  have lt1 : ∀ x ∈ p1, x.block < W.heap.size := by obtain ⟨m, hm⟩ := k1; exact DataW.trod_lt m _ _ _ hm
  obtain ⟨l1, c1, z1, m1⟩ := opened_LI (s0 := W.heap.size) Tryz.underlying26 Tryz.underlying3 (by kernel_rfl) h1
  have w1 : l1.length ≤ 1048576 := by
    rcases z1 with ⟨_, rfl⟩ | ⟨rest, rfl⟩
    · decide
    · refine Nat.le_trans ?_ (up_slice (es := lits .i64 l1) (rest := rest) (i := 1) hb rfl).1
      simp [lits]
  clear hA0 hval0
  have hcs : Cs (allX W) W.heap.size H0 [LLI false false l0, LI false l1] (#[.slice a0 len0 cap0, .slice a1 len1 cap1] : Array Value).toList := Cs.cons c0 (Cs.cons c1 (Cs.nil))
  refine ((fk_GroupClosures fk_awake).con _ (eB true) (⟨l0, l1, by omega, by omega, rfl, rfl⟩) (allX W) W _ (fun b o v h => h) hcs).mono fun e W' ⟨u, Y, he, _, hC, bel, _⟩ => ?_
  subst he
  cases hC
  exact ⟨_, rfl, _, _, _, [], _, [], hW', trodAll_mk1 (shut_bool Tryz.underlying4 _), (trodAll_cons_mk (Below.trod laidOut (by kernel_rfl) (of_decide_eq_true (by kernel_rfl)) k0 bel lt0) (trodAll_cons_mk (Below.trod laidOut (by kernel_rfl) (of_decide_eq_true (by kernel_rfl)) k1 bel lt1) trodAll_mk0)), rfl, bel.frame _, fun h => by cases h⟩
theorem over : Rows.groupClosuresUptoRow.holds Tryz.pinned (Rows.OpenSpec.upto Rows.groupClosuresSpec) :=
  OpenClaim.holds_of_cond 4 Tryz.f4 rfl rfl rfl rfl rfl rfl rfl ⟨rfl, rfl, rfl, rfl, rfl⟩ rfl rfl rfl rfl rfl (by kernel_rfl) Tryz.func4 (by kernel_rfl)
    (of_decide_eq_true (by kernel_rfl)) (by unfold Func.isWrapper; first | (rw [if_pos (by decide +kernel)]; kernel_rfl) | (rw [if_neg (by decide +kernel)]; exact ⟨rfl, rfl⟩))
    (fun os started H enc _ F => lifted os started H enc F)
theorem proved : Rows.GroupClosuresUptoSaid := over
#print axioms proved
end Go.Proofs.YtbpajecjaoefaaaGreat.groupClosures
namespace Go.Proofs.YtbpajecjaoefaaaGreat
/-- The row, under a short name, for the claim. -/
theorem groupClosures_holds : Rows.GroupClosuresUptoSaid := groupClosures.proved
end Go.Proofs.YtbpajecjaoefaaaGreat
