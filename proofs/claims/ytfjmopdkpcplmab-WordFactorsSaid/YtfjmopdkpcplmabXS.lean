/- The library's sorts, as calls that write a row of the caller's own: the shelf's contracts in the printed walks' words. -/
import Derived.Test.YtfjmopdkpcplmabXM
import Derived.Sort.OwnSorted
set_option linter.unusedVariables false
namespace Go.Proofs.Ytfjmopdkpcplmab.XS
open Go.RowKit Go.Sort Go.Proofs.YtfjmopdkpcplmabW.PrintWords

def sortStrs (l : List ByteArray) : List ByteArray := ((l.map fun b => b.data.toList).mergeSort fun x y => decide (x ≤ y)).map fun b => ⟨b.toArray⟩
def sortInts (l : List Int) : List Int := l.mergeSort fun x y => decide (x ≤ y)
theorem sortStrs_length (l : List ByteArray) : (sortStrs l).length = l.length := by simp [sortStrs]
theorem sortInts_length (l : List Int) : (sortInts l).length = l.length := by simp [sortInts]

section
variable {α β : Type} {enc : β → Value} {w : World} {g : Nat} {cur : Array Value} {e : TypeId} [Inhabited β]
/-- The block of the row, behind the sort. -/
theorem block_after {n : Nat} {os : Array Obj} {fr : Nat × Nat} (d : Array β) (hb : w.heap[g]? = some (.cells cur e fr)) :
    (grow (putRow enc (Sort.ahead w n) g 0 d) os).heap[g]? = some (.cells (putCells enc 0 d cur) e fr) := by
  obtain ⟨hg, _⟩ := Array.getElem?_eq_some_iff.1 hb
  simp only [grow, putRow, mapBlock, Sort.ahead]
  rw [Array.getElem?_append_left (by simpa using hg), Array.getElem?_modify, if_pos rfl, hb]
  rfl
/-- No other block of before turns. -/
theorem others_after {n : Nat} {os : Array Obj} (d : Array β) : w.grownBy (grow (putRow enc (Sort.ahead w n) g 0 d) os) (some g) where
  os := rfl
  tape := rfl
  output := rfl
  size := by simp only [grow, putRow, mapBlock, Sort.ahead, Array.size_append, Array.size_modify]; omega
  block := fun k hk hne => by
    simp only [grow, putRow, mapBlock, Sort.ahead]
    rw [Array.getElem?_append_left (by simpa using hk), Array.getElem?_modify, if_neg (fun e => hne (congrArg some e.symm))]
/-- Its cells, one by one. -/
theorem cell_after (ts : List β) (hc : ts.length ≤ cur.size) (j : Nat) (hj : j < ts.length) : (putCells enc 0 ts.toArray cur).toList[j]? = some (enc ts[j]) := by
  have hjc : j < cur.size := Nat.lt_of_lt_of_le hj hc
  rw [Array.getElem?_toList]
  simp [putCells, hj, hjc]
theorem holds_of (ss : List β) (hb : w.heap[g]? = some (.cells cur e (0, 0))) (ht : cur.toList.take ss.length = ss.map enc) : Holds enc w g 0 ss.toArray := fun j hj => by
  have hj' : j < ss.length := by simpa using hj
  have hc : cur[j]? = some (enc ss[j]) := by
    have h := congrArg (fun l : List Value => l[j]?) ht
    simpa [hj'] using h
  refine ⟨?_, blk_frozen hb _⟩
  rw [Nat.zero_add, blk_cell hb, hc]
  simp [hj']
theorem row_of {base cap n : Nat} {os : Array Obj} {ss ts : List β} (hl : ts.length = ss.length) (hbase : base ≤ g) (hb : w.heap[g]? = some (.cells cur e (0, 0)))
    (h1 : ss.length ≤ cap) (h2 : cap ≤ maxLen) (h3 : cur.size = cap * 1) :
    (grow (putRow enc (Sort.ahead w n) g 0 ts.toArray) os).ownsRow base e 1 (.slice (some ⟨g, 0, none⟩) ss.length cap) ss.length (ts.map enc) := by
  refine ⟨by rw [List.length_map, hl, Nat.mul_one], .inr ⟨g, cap, putCells enc 0 ts.toArray cur, rfl, hbase, block_after _ hb, h1, h2, by simpa [putCells] using h3, ?_⟩⟩
  refine List.ext_getElem? fun j => ?_
  by_cases hj : j < ts.length
  · rw [List.getElem?_take_of_lt (by omega), cell_after ts (by omega) j hj, List.getElem?_map, List.getElem?_eq_getElem hj]
    rfl
  · rw [List.getElem?_eq_none (by rw [List.length_take]; omega), List.getElem?_eq_none (by rw [List.length_map]; omega)]
/-- A sort's contract, as a call that writes a row of the caller's own. -/
theorem calls_of {P : Program} {n : Nat} {t : TypeId} {enc' : α → Value} {h1 : ∀ x, (enc' x).oneCell' = true} (f : α → β) (f' : β → α) (hf : ∀ x, enc (f x) = enc' x) (hf' : ∀ y, enc' (f' y) = enc y) (srt : List β → List β) (hlen : ∀ l, (srt l).length = l.length) (hnil : srt [] = [])
    (hS : ∀ (blk off cap : Nat) (ss : List β) (w : World), Holds enc w blk off ss.toArray → blk < w.heap.size → ss.length < 4611686018427387904 → Calls P n #[.slice (some ⟨blk, off, none⟩) ss.length cap] w fun e w' => e = .returned (.tuple #[]) ∧ ∃ n os, w' = grow (putRow enc (Sort.ahead w n) blk off (srt ss).toArray) os)
    (hN : ∀ (p : Option Addr) (cap : Nat) (w : World), Calls P n #[.slice p 0 cap] w fun e w' => e = .returned (.tuple #[]) ∧ w' = w)
    (P0 : Nat → Prop) (u : Value) (l : List α) (w0 w : World) (hB : Below w0.heap.size w0 w) (ho : Kd.R (Kd.scalar enc' h1) t w w0.heap.size P0 u l) (hl : l.length < 4611686018427387904) :
    Calls P n #[u] w fun e w' => e = .returned (.tuple #[]) ∧ Kd.R (Kd.scalar enc' h1) t w' w0.heap.size (fun k_ => (P0 k_ ∨ w.heap.size ≤ k_)) u ((srt (l.map f)).map f') ∧ Below w0.heap.size w0 w' ∧ Kept w w' (fun k_ => P0 k_) := by
  have hok := ho.1
  rcases (Kd.own_of_R ho).2 with ⟨rfl, hx⟩ | ⟨g, cap, cur, rfl, hbase, hb, a1, a2, a3, a4⟩
  · obtain rfl : l = [] := by simpa [encs] using hx
    refine (hN none 0 w).mono ?_
    rintro e w' ⟨rfl, rfl⟩
    refine ⟨rfl, ?_, hB, Kept.refl _ _⟩
    simp only [List.map_nil, hnil]
    exact Kd.R_nil _ _ _ _ _
  · have ht : cur.toList.take (l.map f).length = (l.map f).map enc := by
      rw [List.length_map, List.map_map]
      have : (enc ∘ f) = enc' := funext hf
      rw [this]
      simpa [encs] using a4
    have hc := hS g 0 cap (l.map f) w (holds_of _ hb ht) (Array.getElem?_eq_some_iff.1 hb).1 (by simpa using hl)
    rw [List.length_map] at hc
    refine hc.mono ?_
    rintro e w' ⟨rfl, n', os, rfl⟩
    have hg := others_after (enc := enc) (w := w) (g := g) (n := n') (os := os) (srt (l.map f)).toArray
    have hr := row_of (enc := enc) (n := n') (os := os) (ss := l.map f) (ts := srt (l.map f)) (hlen _) hbase hb (by simpa using a1) a2 a3
    refine ⟨rfl, ?_, pw_below_grown hB (some g) hB.size hg (fun k hk => ?_), ⟨hg.size, fun i hi hn => hg.block i hi (fun he => hn ?_)⟩⟩
    · refine Kd.R_of_own ?_ (fun k hk => .inl (hok k hk))
      have e1 : ((srt (l.map f)).map f').length = l.length := by simp [hlen]
      have e2 : encs enc' ((srt (l.map f)).map f') = (srt (l.map f)).map enc := by
        rw [encs, List.map_map]
        exact congrArg (fun z => List.map z _) (funext hf')
      rw [e1, e2]
      simpa using hr
    · injection hk with hk; omega
    · injection he with he; exact hok i (by simp [Value.ownBlock, he])
theorem strs_calls {P : Program} {n : Nat} {t : TypeId}
    (hS : ∀ (blk off cap : Nat) (ss : List (List UInt8)) (w : World), Holds encStr w blk off ss.toArray → blk < w.heap.size → ss.length < 4611686018427387904 → Calls P n #[.slice (some ⟨blk, off, none⟩) ss.length cap] w fun e w' => e = .returned (.tuple #[]) ∧ ∃ n os, w' = grow (putRow encStr (Sort.ahead w n) blk off (ss.mergeSort fun x y => decide (x ≤ y)).toArray) os)
    (hN : ∀ (p : Option Addr) (cap : Nat) (w : World), Calls P n #[.slice p 0 cap] w fun e w' => e = .returned (.tuple #[]) ∧ w' = w)
    (P0 : Nat → Prop) (u : Value) (l r : List ByteArray) (w0 w : World) (hB : Below w0.heap.size w0 w) (ho : Kd.R Kd.string t w w0.heap.size P0 u l) (h : (if (l.length : Int) < 4611686018427387904 then some (sortStrs l) else none) = some r) :
    Calls P n #[u] w fun e w' => e = .returned (.tuple #[]) ∧ Kd.R Kd.string t w' w0.heap.size (fun k_ => (P0 k_ ∨ w.heap.size ≤ k_)) u r ∧ Below w0.heap.size w0 w' ∧ Kept w w' (fun k_ => P0 k_) := by
  by_cases c : (l.length : Int) < 4611686018427387904
  · rw [if_pos c] at h
    obtain rfl := Option.some.inj h
    exact calls_of (enc := encStr) (enc' := Value.string) (fun b => b.data.toList) (fun b => ⟨b.toArray⟩) (fun _ => rfl) (fun _ => rfl) _ (fun _ => by simp) (by simp) hS hN P0 u l w0 w hB ho (by omega)
  · rw [if_neg c] at h; cases h
theorem ints_calls {P : Program} {n : Nat} {t : TypeId}
    (hS : ∀ (blk off cap : Nat) (zs : List Int) (w : World), Holds (Value.int .i64) w blk off zs.toArray → blk < w.heap.size → zs.length < 4611686018427387904 → Calls P n #[.slice (some ⟨blk, off, none⟩) zs.length cap] w fun e w' => e = .returned (.tuple #[]) ∧ ∃ n os, w' = grow (putRow (Value.int .i64) (Sort.ahead w n) blk off (zs.mergeSort fun x y => decide (x ≤ y)).toArray) os)
    (hN : ∀ (p : Option Addr) (cap : Nat) (w : World), Calls P n #[.slice p 0 cap] w fun e w' => e = .returned (.tuple #[]) ∧ w' = w)
    (P0 : Nat → Prop) (u : Value) (l r : List Int) (w0 w : World) (hB : Below w0.heap.size w0 w) (ho : Kd.R (Kd.int .i64) t w w0.heap.size P0 u l) (h : (if (l.length : Int) < 4611686018427387904 then some (sortInts l) else none) = some r) :
    Calls P n #[u] w fun e w' => e = .returned (.tuple #[]) ∧ Kd.R (Kd.int .i64) t w' w0.heap.size (fun k_ => (P0 k_ ∨ w.heap.size ≤ k_)) u r ∧ Below w0.heap.size w0 w' ∧ Kept w w' (fun k_ => P0 k_) := by
  by_cases c : (l.length : Int) < 4611686018427387904
  · rw [if_pos c] at h
    obtain rfl := Option.some.inj h
    have := calls_of (enc := Value.int .i64) (enc' := Value.int .i64) id id (fun _ => rfl) (fun _ => rfl) (fun zs => zs.mergeSort fun x y => decide (x ≤ y)) (fun _ => by simp) (by simp) hS hN P0 u l w0 w hB ho (by omega)
    simp only [List.map_id] at this
    exact this
  · rw [if_neg c] at h; cases h
end
end Go.Proofs.Ytfjmopdkpcplmab.XS
