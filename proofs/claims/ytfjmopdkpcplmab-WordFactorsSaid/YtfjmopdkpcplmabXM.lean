/- Maps that a function makes for itself: the entries as a list of pairs, in the order in which they came; and what walks want of them. -/
import Derived.Test.YtfjmopdkpcplmabWMore
import Derived.Carry
import Derived.WideMake
set_option linter.unusedVariables false
set_option linter.unusedSimpArgs false
namespace Go.Proofs.Ytfjmopdkpcplmab.XM
open Go.RowKit Go.Proofs.YtfjmopdkpcplmabW.PrintWords

/-! ### The pure side -/
def mfind {κ ν : Type} [DecidableEq κ] : List (κ × ν) → κ → Option ν
  | [], _ => none
  | (a, v) :: l, k => if k = a then some v else mfind l k
def mput {κ ν : Type} [DecidableEq κ] : List (κ × ν) → κ → ν → List (κ × ν)
  | [], k, v => [(k, v)]
  | (a, w) :: l, k, v => if k = a then (k, v) :: l else (a, w) :: mput l k v

/-! ### The entries -/
section
variable {κ ν : Type}
def menc (fk : κ → Value) (fv : ν → Value) : Nat → List (κ × ν) → List MapEntry
  | _, [] => []
  | i, (k, v) :: l => { key := fk k, val := fv v, born := i } :: menc fk fv (i + 1) l
def mobj (fk : κ → Value) (fv : ν → Value) (l : List (κ × ν)) : Obj := .map (menc fk fv 0 l).toArray l.length
theorem menc_length (fk : κ → Value) (fv : ν → Value) : ∀ (l : List (κ × ν)) (i : Nat), (menc fk fv i l).length = l.length
  | [], _ => rfl
  | (_, _) :: l, i => by simp [menc, menc_length fk fv l (i + 1)]
theorem menc_append (fk : κ → Value) (fv : ν → Value) (k : κ) (v : ν) : ∀ (l : List (κ × ν)) (i : Nat), menc fk fv i (l ++ [(k, v)]) = menc fk fv i l ++ [{ key := fk k, val := fv v, born := i + l.length }]
  | [], i => rfl
  | (a, w) :: l, i => by
    simp only [List.cons_append, menc, menc_append fk fv k v l (i + 1), List.length_cons]
    rw [show i + 1 + l.length = i + (l.length + 1) by omega]
end
section
variable {κ ν : Type} [DecidableEq κ]
/-- The keys are compared at once. -/
def Now (d : TypeDesc) (fk : κ → Value) : Prop := ∀ a b : κ, Instr.sameNow d (fk a) (fk b) = some (decide (a = b))
theorem now_int (k : IntKind) : Now (.int k) (Value.int k) := fun a b => by
  simp only [Instr.sameNow, if_true]
  by_cases h : a = b <;> simp [h]
theorem ba_beq (a b : ByteArray) : (a == b) = decide (a = b) := by
  cases a with | mk x => cases b with | mk y =>
  rw [Bool.eq_iff_iff, decide_eq_true_iff]
  show (x == y) = true ↔ _
  rw [beq_iff_eq]
  exact ⟨fun h => by rw [h], fun h => by injection h⟩
theorem now_string : Now .string Value.string := fun a b => by
  simp only [Instr.sameNow, ba_beq]
theorem now_bool : Now .bool Value.bool := fun a b => by
  simp only [Instr.sameNow]
  by_cases h : a = b <;> simp [h]
/-- Where a key stands, and what is there. -/
def mat : List (κ × ν) → κ → Nat → Option (Nat × ν)
  | [], _, _ => none
  | (a, v) :: l, k, i => if k = a then some (i, v) else mat l k (i + 1)
theorem findNow_menc {d : TypeDesc} {fk : κ → Value} (fv : ν → Value) (hn : Now d fk) (k : κ) : ∀ (l : List (κ × ν)) (i j : Nat), Instr.findNow d (fk k) (menc fk fv j l) i = some ((mat l k i).map fun p => (p.1, fv p.2))
  | [], i, j => rfl
  | (a, v) :: l, i, j => by
    simp only [menc, Instr.findNow, hn k a, mat]
    by_cases h : k = a
    · simp [h]
    · simp only [decide_eq_false h, if_neg h]
      exact findNow_menc fv hn k l (i + 1) (j + 1)
theorem mat_find (k : κ) : ∀ (l : List (κ × ν)) (i : Nat), (mat l k i).map (·.2) = mfind l k
  | [], _ => rfl
  | (a, v) :: l, i => by
    simp only [mat, mfind]
    by_cases h : k = a
    · simp [h]
    · simp only [if_neg h]; exact mat_find k l (i + 1)
theorem mput_none {k : κ} {v : ν} : ∀ {l : List (κ × ν)} {i : Nat}, mat l k i = none → mput l k v = l ++ [(k, v)]
  | [], _, _ => rfl
  | (a, w) :: l, i, h => by
    simp only [mat] at h
    by_cases e : k = a
    · simp [e] at h
    · simp only [if_neg e] at h
      simp only [mput, if_neg e, mput_none h, List.cons_append]
theorem mput_some {fk : κ → Value} {fv : ν → Value} {k : κ} {v : ν} : ∀ {l : List (κ × ν)} {i j q : Nat} {u : ν}, mat l k i = some (q, u) → i ≤ q ∧ q - i < l.length ∧ (mput l k v).length = l.length ∧
    (menc fk fv j l)[q - i]?.map (·.key) = some (fk k) ∧ menc fk fv j (mput l k v) = (menc fk fv j l).modify (q - i) (fun e => { e with key := fk k, val := fv v })
  | [], i, j, q, u, h => by simp [mat] at h
  | (a, w) :: l, i, j, q, u, h => by
    simp only [mat] at h
    by_cases e : k = a
    · simp only [if_pos e, Option.some.injEq, Prod.mk.injEq] at h
      obtain ⟨rfl, rfl⟩ := h
      subst e
      simp [mput, menc]
    · simp only [if_neg e] at h
      obtain ⟨h1, h2, h3, h4, h5⟩ := mput_some (fk := fk) (fv := fv) (v := v) (j := j + 1) h
      have hq : q - i = (q - (i + 1)) + 1 := by omega
      refine ⟨by omega, by simp only [List.length_cons]; omega, ?_, ?_, ?_⟩
      · simp only [mput, if_neg e, List.length_cons, h3]
      · rw [hq]; simp only [menc, List.getElem?_cons_succ]; exact h4
      · rw [hq]; simp only [mput, if_neg e, menc, List.modify_succ_cons, h5]

/-! ### The runs -/
variable {P : Program} {W : World} {g : Nat} {T K E : TypeId} {d : TypeDesc} {fk : κ → Value} {fv : ν → Value} {l : List (κ × ν)} {k : κ} {v : ν}
theorem run_lookup2 (hT : P.underlying T = some (.map K E)) (hK : P.underlying K = some d) (hn : Now d fk) (hk : MapKept.IsKey d (fk k)) {z : ν} (hz : (zeroValue E).run P W = .ok (fv z) W) (hb : W.heap[g]? = some (mobj fk fv l)) :
    (Instr.lookup T (.map (some g)) (fk k) true).run P W = .ok (.tuple #[fv ((mfind l k).getD z), .bool (mfind l k).isSome]) W := by
  have hf := findNow_menc fv hn k l 0 0
  have hc : ∀ e, (Instr.checkKey e 10000 K (fk k)).run P W = .ok () W := fun e => MapKept.run_checkKey (k := fk k) hK hk e 9999
  have hg := MapKept.run_findKey (P := P) (w := W) hK hf
  have hm := mat_find k l 0
  cases h : mat l k 0 with
  | none =>
    rw [h] at hm hg
    simp [Instr.lookup, run_underlying hT, MapKept.run_getObj_map (show W.heap[g]? = some (.map (menc fk fv 0 l).toArray l.length) from hb), hc, hg, hz, ← hm, Result.andThen]
  | some p =>
    rw [h] at hm hg
    simp [Instr.lookup, run_underlying hT, MapKept.run_getObj_map (show W.heap[g]? = some (.map (menc fk fv 0 l).toArray l.length) from hb), hc, hg, ← hm, Result.andThen]
theorem run_lookup1 (hT : P.underlying T = some (.map K E)) (hK : P.underlying K = some d) (hn : Now d fk) (hk : MapKept.IsKey d (fk k)) {z : ν} (hz : (zeroValue E).run P W = .ok (fv z) W) (hb : W.heap[g]? = some (mobj fk fv l)) :
    (Instr.lookup T (.map (some g)) (fk k) false).run P W = .ok (fv ((mfind l k).getD z)) W := by
  have hf := findNow_menc fv hn k l 0 0
  have hc : ∀ e, (Instr.checkKey e 10000 K (fk k)).run P W = .ok () W := fun e => MapKept.run_checkKey (k := fk k) hK hk e 9999
  have hg := MapKept.run_findKey (P := P) (w := W) hK hf
  have hm := mat_find k l 0
  cases h : mat l k 0 with
  | none =>
    rw [h] at hm hg
    simp [Instr.lookup, run_underlying hT, MapKept.run_getObj_map (show W.heap[g]? = some (.map (menc fk fv 0 l).toArray l.length) from hb), hc, hg, hz, ← hm, Result.andThen]
  | some p =>
    rw [h] at hm hg
    simp [Instr.lookup, run_underlying hT, MapKept.run_getObj_map (show W.heap[g]? = some (.map (menc fk fv 0 l).toArray l.length) from hb), hc, hg, ← hm, Result.andThen]
def putObj (W : World) (g : Nat) (o : Obj) : World := { W with heap := W.heap.setIfInBounds g o }
theorem run_mapUpdate (hT : P.underlying T = some (.map K E)) (hK : P.underlying K = some d) (hn : Now d fk) (hk : MapKept.IsKey d (fk k)) (hs : Instr.sameBits 10000 (fk k) (fk k) = true) (hb : W.heap[g]? = some (mobj fk fv l)) :
    (Instr.mapUpdate T (.map (some g)) (fk k) (fv v)).run P W = .ok () (putObj W g (mobj fk fv (mput l k v))) := by
  have hb' : W.heap[g]? = some (.map (menc fk fv 0 l).toArray l.length) := hb
  have hf := findNow_menc fv hn k l 0 0
  have hc : ∀ e, (Instr.checkKey e 10000 K (fk k)).run P W = .ok () W := fun e => MapKept.run_checkKey (k := fk k) hK hk e 9999
  have hg := MapKept.run_findKey (P := P) (w := W) hK hf
  cases h : mat l k 0 with
  | none =>
    rw [h] at hg
    have hp := mput_none (v := v) h
    simp [Instr.mapUpdate, run_underlying hT, MapKept.run_getObj_map hb', hc, hg, MapKept.run_setObj_map _ hb', Result.andThen, putObj, mobj, hp, menc_append]
  | some p =>
    obtain ⟨q, u⟩ := p
    rw [h] at hg
    obtain ⟨_, h2, h3, h4, h5⟩ := mput_some (fk := fk) (fv := fv) (v := v) (j := 0) h
    rw [Nat.sub_zero] at h4 h5
    have hkey : (((menc fk fv 0 l)[q]?.map (·.key)).getD (fk k)) = fk k := by rw [h4]; rfl
    have hst : (Instr.keyThatStays (fk k) (fk k)).run P W = .ok (fk k) W := by simp [Instr.keyThatStays, hs]
    simp [Instr.mapUpdate, run_underlying hT, MapKept.run_getObj_map hb', hc, hg, hkey, hst, MapKept.run_setObj_map _ hb', Result.andThen, putObj, mobj, h3, h5]
end
section
variable {κ ν : Type} {P : Program} {W : World} {g : Nat} {T K E : TypeId} {fk : κ → Value} {fv : ν → Value} {l : List (κ × ν)}
theorem run_len (hT : P.underlying T = some (.map K E)) (ty : TypeId) (hl : l.length ≤ 9223372036854775807) (hb : W.heap[g]? = some (mobj fk fv l)) : (Builtin.len_ #[T] ty #[.map (some g)]).run P W = .ok (.int .i64 l.length) W := by
  have hb' : W.heap[g]? = some (.map (menc fk fv 0 l).toArray l.length) := hb
  simp [Builtin.len_, run_underlying hT, MapKept.run_getObj_map hb', Result.andThen, menc_length, goInt]
end

/-! ### The world -/
section
variable {W w1 w2 : World} {g g' : Nat} {o o' : Obj}
theorem put_grown (W : World) (g : Nat) (o : Obj) : W.grownBy (putObj W g o) (some g) where
  os := rfl
  tape := rfl
  output := rfl
  size := by simp [putObj]
  block := fun k hk hne => by
    have : g ≠ k := fun e => hne (by rw [e])
    simp [putObj, Array.getElem?_setIfInBounds, this]
theorem put_new (h : W.heap[g]? = some o') : (putObj W g o).heap[g]? = some o := by
  have := blk_lt h
  simp [putObj, this]
theorem put_below {B : Nat} {w : World} (h : Below B w W) (hg : B ≤ g) : Below B w (putObj W g o) where
  os := h.os
  tape := h.tape
  output := h.output
  size := by have := h.size; simpa [putObj] using this
  block := fun i hi => by
    have : g ≠ i := by omega
    rw [← h.block i hi]
    simp [putObj, Array.getElem?_setIfInBounds, this]
theorem blk_farG (h : W.heap[g]? = some o) {p : Addr} (hp : g ≠ p.block) (u : Value) : (W.setCell p u).heap[g]? = some o := (Below.heap_setCell W p u g hp).trans h
end
end Go.Proofs.Ytfjmopdkpcplmab.XM
namespace Go.Proofs.YtfjmopdkpcplmabW.PrintWords.Kd
open Go.RowKit Go.Proofs.Ytfjmopdkpcplmab.XM
section
variable {α : Type} {d : Kd α} {e : Nat} {w w1 : World} {base : Nat} {ok : Nat → Prop} {v : Value} {xs : List α}
theorem R_mput (h : d.R e w base ok v xs) {g c : Nat} {es : Array MapEntry} (hb : w.heap[g]? = some (.map es c)) (hg : w.grownBy w1 (some g)) : d.R e w1 base ok v xs := by
  refine R_mono (R_grown (R_bound h) hg (fun k hk he => ?_)) (fun _ hk => hk.1)
  obtain ⟨_, _, _, q, hq, cells, hc⟩ := hk
  injection he with he
  subst he
  rw [hb] at hc
  injection hc with hc
  injection hc
theorem R_neM (h : d.R e w base ok v xs) {g c : Nat} {es : Array MapEntry} (hb : w.heap[g]? = some (.map es c)) (_ : True) : some g ≠ v.ownBlock := by
  intro he
  obtain ⟨inner, ho⟩ := R_own h
  obtain ⟨cells, hc⟩ := own_typed ho g he.symm
  rw [hb] at hc
  injection hc with hc
  injection hc
theorem R_typesM (h : d.R e w base ok v xs) {g c : Nat} {es : Array MapEntry} (hb : w.heap[g]? = some (.map es c)) (_ : True) : d.R e w base (fun k => ok k ∧ k ≠ g) v xs :=
  R_mono (R_bound h) (fun k hk => ⟨hk.1, by
    obtain ⟨_, _, _, q, hq, cells, hc⟩ := hk
    rintro rfl
    rw [hb] at hc
    injection hc with hc
    injection hc⟩)
end
section
variable {P : Program} {ops : Array Oper} {rest : List Oper} {o : Oper} {a : Act} {Q : Exit → Act → World → Prop} {α : Type}
/-- make([]T, 0, n). -/
theorem R_makeCap (d : Kd α) {w0 W : World} (base e : Nat) (hgd : o.guard = none) {N : Tmp} (_hd : o.dst = some N) (t : TypeId) (x y : Operand) (ho : o.op = .makeSlice t x y) (n : Int) (hx : a.eval x = .int .i64 0) (hy : a.eval y = .int .i64 n)
    (ht : P.underlying t = some (.slice e)) (z : Value) (bytes : Nat) (hinfo : (P.info? e).map (fun i => (i.zero, i.size, i.bytes)) = some (some z, d.sz, bytes)) (hz : z.cells.size = d.sz) (hs0 : 0 < d.sz) (hb0 : 0 < bytes)
    (z0 : α) {ok okp : Nat → Prop} (_hzero : d.M W base okp z0 z.cells.toList) (_hok : ∀ k, okp k → ok k) (hfresh : ok W.heap.size) (h0 : 0 ≤ n) (hl : n.toNat * bytes ≤ 281474976710656) (HB : Below base w0 W) (hbase : base ≤ W.heap.size)
    (h : ∀ v1 w1, d.R e w1 base ok v1 [] → Below base w0 w1 → W.grownBy w1 none → (∃ b, v1.ownBlock = some b ∧ W.heap.size ≤ b) → wpList P ops Q rest (a.put o.dst v1) w1) : wpList P ops Q (o :: rest) a W := by
  obtain ⟨m, rfl⟩ := Int.eq_ofNat_of_zero_le h0
  simp only [Int.toNat_natCast] at hl
  obtain ⟨i0, hi, hzz⟩ := Option.map_eq_some_iff.1 hinfo
  simp only [Prod.mk.injEq] at hzz
  obtain ⟨hz0, hz1, hz2⟩ := hzz
  have hm : m ≤ 281474976710656 := Nat.le_trans (Nat.le_mul_of_pos_right _ hb0) hl
  have hr := run_make (P := P) (w := W) t e i0 z ht hi hz0 .i64 .i64 0 (m : Int) (by omega) (by omega)
    (by
      have h3 : ((i0.bytes * m : Nat) : Int) ≤ 281474976710656 := by rw [hz2, Nat.mul_comm]; omega
      rwa [Int.natCast_mul] at h3) (by omega)
  simp only [Int.toNat_natCast] at hr
  rw [hz1] at hr
  refine event_run hgd (v := .slice (some ⟨W.heap.size, 0, none⟩) 0 m) (w1 := W.alloc (.cells (madeCells z.cells (m * d.sz)) e)) (by simp [execOp, ho, hx, hy, hr]) (h _ _ ⟨fun k hk => ?_, [], ⟨by simp, .inr ⟨W.heap.size, m, madeCells z.cells (m * d.sz), rfl, hbase, blk_new W _, by simp, by unfold maxLen; omega, by simp [size_madeCells], by simp⟩⟩, Reps.none _ _⟩ (HB.alloc hbase _) (World.grownBy_alloc W _ none) ⟨W.heap.size, by simp [Value.ownBlock], Nat.le_refl _⟩)
  have : W.heap.size = k := by simpa [Value.ownBlock] using hk
  subst this
  exact hfresh
end
end Go.Proofs.YtfjmopdkpcplmabW.PrintWords.Kd
namespace Go.Proofs.YtfjmopdkpcplmabW.PrintWords
open Go.RowKit Go.Proofs.Ytfjmopdkpcplmab.XM
section
variable {P : Program} {ops : Array Oper} {rest : List Oper} {o : Oper} {a : Act} {Q : Exit → Act → World → Prop}
theorem map_event {W : World} (hgd : o.guard = none) {N : Tmp} (_hd : o.dst = some N)
    (hrun : (execOp a.eval o).run P W = .ok (.value (.map (some W.heap.size))) (W.alloc (.map #[] 0)))
    (h : ∀ g, g = W.heap.size → ∀ w1, w1.heap[g]? = some (.map #[] 0) → Below W.heap.size W w1 → wpList P ops Q rest (a.put o.dst (.map (some g))) w1) : wpList P ops Q (o :: rest) a W :=
  Kd.event_run hgd hrun (h _ rfl _ (blk_new W _) (below_alloc (Below.refl _ _) _))
theorem gate_mput {W : World} {T : TypeId} {m k v : Operand} (_ho : o.op = .mapUpdate T m k v) (h : wpList P ops Q (o :: rest) a W) : wpList P ops Q (o :: rest) a W := h
theorem gate_mins {W : World} {T : TypeId} {m k v : Operand} (_ho : o.op = .insert T m k v) (h : wpList P ops Q (o :: rest) a W) : wpList P ops Q (o :: rest) a W := h
theorem mput_event {W w1 : World} (hgd : o.guard = none) (hN : o.dst = none)
    (hrun : (execOp a.eval o).run P W = .ok .skip w1) (h : ∀ w', w' = w1 → wpList P ops Q rest a w') : wpList P ops Q (o :: rest) a W := by
  refine wpList_plain hgd fun K hK => ?_
  unfold Oper.wp
  rw [hrun]
  show K (a.put o.dst undef) w1
  rw [hN]
  exact hK _ _ (h _ rfl)
end
end Go.Proofs.YtfjmopdkpcplmabW.PrintWords
