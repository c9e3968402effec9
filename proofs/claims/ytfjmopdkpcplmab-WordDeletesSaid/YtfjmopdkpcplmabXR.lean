/- Arguments that are slices, opened as what the printed functions read. -/
import Derived.Test.YtfjmopdkpcplmabWMore
import Derived.Deep.Grids
import Derived.Deep.Matrix
import Derived.SizedLaws
import Derived.ChangeSlices
namespace Go.Proofs.Ytfjmopdkpcplmab.XR
open Go.ChangeShapes Go.WideShapes Go.Deep Go.Proofs.YtfjmopdkpcplmabW.PrintWords
theorem kd_bools {w : World} {A : Option Addr} {l : List Bool} (hl : l.length ≤ maxLen) (h : 0 < l.length → ∃ ad, A = some ad ∧ ∀ j, j < l.length → w.cell? (ad.add j) = some (.bool (l.getD j false))) : Kd.C Kd.bool w A l.length l :=
  Kd.C_of_reads (enc := Value.bool) (d := false) (h1 := fun _ => rfl) ⟨rfl, by unfold maxLen at hl; omega, h⟩
theorem kd_ints {k : IntKind} {w : World} {A : Option Addr} {l : List Int} (hl : l.length ≤ maxLen) (h : 0 < l.length → ∃ ad, A = some ad ∧ ∀ j, j < l.length → w.cell? (ad.add j) = some (.int k (l.getD j 0))) : Kd.C (Kd.int k) w A l.length l :=
  Kd.C_of_reads (enc := Value.int k) (d := 0) (h1 := fun _ => rfl) ⟨rfl, by unfold maxLen at hl; omega, h⟩
theorem opened_bools {H : Type} {enc : TypeId × Value → H} {P : Program} {w : World} {base : Nat} {held : Bool} {t e : TypeId} {a : Option Addr} {len cap : Nat} {d : DataW H} {ps : List MemPlace} (ht : P.underlying t = some (.slice e)) (he : P.underlying e = some .bool) (hc : P.cellsOf e = 1)
    (h : DataW.Trod enc P w base (fun _ => true) held t (.slice a len cap) d ps) : ∃ l : List Bool, len = l.length ∧ Kd.C Kd.bool w a l.length l ∧ l.length ≤ cap ∧ l.length ≤ maxLen := by
  obtain ⟨fuel, hf⟩ := h
  rcases open_bools ht he hc hf with ⟨hcs, _⟩ | ⟨x, l, c, B, hcs, _, hl, hm, _, hcell⟩
  · simp [Value.cells] at hcs
    obtain ⟨rfl, rfl, rfl⟩ := hcs
    exact ⟨[], rfl, kd_bools (by simp) (fun h => by simp at h), by simp, by simp⟩
  · simp [Value.cells] at hcs
    obtain ⟨rfl, rfl, rfl⟩ := hcs
    refine ⟨(List.range len).map B, by simp, ?_, by simpa using hl, by simp; omega⟩
    refine kd_bools (by simp; omega) (fun _ => ⟨x, rfl, fun j hj => ?_⟩)
    have hj' : j < len := by simpa using hj
    rw [hcell j (by omega)]
    simp [List.getD_eq_getElem?_getD, hj']
end Go.Proofs.Ytfjmopdkpcplmab.XR
