/- Texts of the machine V and of the proofs over it, one behind the other. -/
import Derived.Deep.Draws
import Derived.WalkKit
import Derived.Laws.StructEq
import Derived.Laws.BytesString
import Derived.LoopN
import Derived.Shelf.Abstract
set_option linter.unusedVariables false
set_option linter.unusedSimpArgs false
/- An abstract machine for the loaded program: values, stores, and what they say of the model's values and worlds. -/
namespace Go.Proofs.YtbpajecjaoefaaaGreat.V
open Go Go.RowKit

abbrev Gen := Nat × Nat
/-- Abstract values. 'frz lab k n cs': a slice of n elements of k cells that nobody writes any more (lab: of memory that this call has made). 'own id g': a row of the call's own, whole; 'sub': a part of it, read alone. 'ptr': a place in a block of the call's own. 'fptr': a place that nobody writes. -/
inductive AV where
  | lit (v : Value)
  | frz (lab : Bool) (k n : Nat) (cs : List AV)
  | own (id : Nat) (g : Gen)
  | sub (id : Nat) (g : Gen) (k off len : Nat)
  | ptr (id : Nat) (g : Gen) (off : Nat)
  | fptr (cs : List AV)
  | mapr (id : Nat) (g : Gen)
  | agg (cs : List AV)
  | tup (vs : List AV)
  | ifc (t : Nat) (v : AV)
  | clo (f : Nat) (cs : List AV)
  | junk
  deriving Inhabited

/-- Blocks of the call's own. -/
inductive Blk where
  | row (g : Gen) (e : TypeId) (k n : Nat) (cs : List AV)
  | box (g : Gen) (t : TypeId) (cs : List AV)
  | mp (g : Gen) (kt vt : TypeId) (es : List (Value × AV))
def Blk.g : Blk → Gen
  | .row g .. | .box g .. | .mp g .. => g

structure St where
  tm : List AV
  M : List (Option Blk)
  g : Nat

def hblk : Value → Option Nat
  | .slice (some a) _ _ => some a.block
  | .pointer (some a) => some a.block
  | .map (some r) => some r
  | _ => none

abbrev Claims := Nat → Nat → Option Value
abbrev Heads := Nat → Gen → Option Value

inductive C (X : Claims) (s0 : Nat) (H : Heads) : AV → Value → Prop
  | lit (v : Value) : C X s0 H (.lit v) v
  | junk (v : Value) : C X s0 H .junk v
  | frz0 {lab : Bool} {k c : Nat} {p : Option Addr} : C X s0 H (.frz lab k 0 []) (.slice p 0 c)
  | frz {lab : Bool} {k n b o c : Nat} {cs : List AV} {vs : List Value} (hl : lab = true → s0 ≤ b) (h0 : 0 < n) (hn : cs.length = n * k) (hc : n ≤ c) (hv : vs.length = cs.length)
      (hx : ∀ (j : Nat) (v : Value), vs[j]? = some v → X b (o + j) = some v) (hC : ∀ (j : Nat) (x : AV) (v : Value), cs[j]? = some x → vs[j]? = some v → C X s0 H x v) : C X s0 H (.frz lab k n cs) (.slice (some ⟨b, o, none⟩) n c)
  | own {id : Nat} {g : Gen} {v : Value} (h : H id g = some v) (h1 : v.oneCell' = true) : C X s0 H (.own id g) v
  | sub {id : Nat} {g : Gen} {k off len b n cap : Nat} (h : H id g = some (.slice (some ⟨b, 0, none⟩) n cap)) (h0 : 0 < len) (hn : off + len ≤ n) (hc : n ≤ cap) : C X s0 H (.sub id g k off len) (.slice (some ⟨b, off * k, none⟩) len (cap - off))
  | ptr {id : Nat} {g : Gen} {off b : Nat} {v : Value} (h : H id g = some v) (hb : hblk v = some b) : C X s0 H (.ptr id g off) (.pointer (some ⟨b, off, none⟩))
  | fptr {cs : List AV} {vs : List Value} {b o : Nat} (hv : vs.length = cs.length) (hx : ∀ (j : Nat) (v : Value), vs[j]? = some v → X b (o + j) = some v) (hC : ∀ (j : Nat) (x : AV) (v : Value), cs[j]? = some x → vs[j]? = some v → C X s0 H x v) :
      C X s0 H (.fptr cs) (.pointer (some ⟨b, o, none⟩))
  | mapr {id : Nat} {g : Gen} {v : Value} (h : H id g = some v) (h1 : v.oneCell' = true) : C X s0 H (.mapr id g) v
  | agg {cs : List AV} {vs : Array Value} (hv : vs.size = cs.length) (hC : ∀ (j : Nat) (x : AV) (v : Value), cs[j]? = some x → vs[j]? = some v → C X s0 H x v) : C X s0 H (.agg cs) (.agg vs)
  | tup {cs : List AV} {vs : Array Value} (hv : vs.size = cs.length) (hC : ∀ (j : Nat) (x : AV) (v : Value), cs[j]? = some x → vs[j]? = some v → C X s0 H x v) : C X s0 H (.tup cs) (.tuple vs)
  | ifc {t : Nat} {x : AV} {v : Value} (h : C X s0 H x v) : C X s0 H (.ifc t x) (.iface t v)
  | clo {f : Nat} {cs : List AV} {vs : Array Value} (hv : vs.size = cs.length) (hC : ∀ (j : Nat) (x : AV) (v : Value), cs[j]? = some x → vs[j]? = some v → C X s0 H x v) : C X s0 H (.clo f cs) (.func (.func f) #[] vs)

def Claims.le (X X' : Claims) : Prop := ∀ b o v, X b o = some v → X' b o = some v
def Heads.le (H H' : Heads) : Prop := ∀ i g v, H i g = some v → H' i g = some v
theorem Claims.le.refl (X : Claims) : X.le X := fun _ _ _ h => h
theorem Heads.le.refl (H : Heads) : H.le H := fun _ _ _ h => h
theorem Claims.le.trans {X Y Z : Claims} (h : X.le Y) (k : Y.le Z) : X.le Z := fun _ _ _ x => k _ _ _ (h _ _ _ x)
theorem Heads.le.trans {X Y Z : Heads} (h : X.le Y) (k : Y.le Z) : X.le Z := fun _ _ _ x => k _ _ _ (h _ _ _ x)

theorem C.mono {X X' : Claims} {s0 s1 : Nat} {H H' : Heads} {x : AV} {v : Value} (h : C X s0 H x v) (hX : X.le X') (hs : s1 ≤ s0) (hH : H.le H') : C X' s1 H' x v := by
  induction h with
  | lit v => exact .lit v
  | junk v => exact .junk v
  | frz0 => exact .frz0
  | frz hl h0 hn hc hv hx _ ih => exact .frz (fun e => Nat.le_trans hs (hl e)) h0 hn hc hv (fun j v hj => hX _ _ _ (hx j v hj)) ih
  | own h h1 => exact .own (hH _ _ _ h) h1
  | sub h h0 hn hc => exact .sub (hH _ _ _ h) h0 hn hc
  | ptr h hb => exact .ptr (hH _ _ _ h) hb
  | fptr hv hx _ ih => exact .fptr hv (fun j v hj => hX _ _ _ (hx j v hj)) ih
  | mapr h h1 => exact .mapr (hH _ _ _ h) h1
  | agg hv _ ih => exact .agg hv ih
  | tup hv _ ih => exact .tup hv ih
  | ifc _ ih => exact .ifc ih
  | clo hv _ ih => exact .clo hv ih

/-- Cell by cell. -/
structure Cs (X : Claims) (s0 : Nat) (H : Heads) (cs : List AV) (vs : List Value) : Prop where
  len : vs.length = cs.length
  at_ : ∀ (j : Nat) (x : AV) (v : Value), cs[j]? = some x → vs[j]? = some v → C X s0 H x v
theorem Cs.mono {X X' : Claims} {s0 s1 : Nat} {H H' : Heads} {cs : List AV} {vs : List Value} (h : Cs X s0 H cs vs) (hX : X.le X') (hs : s1 ≤ s0) (hH : H.le H') : Cs X' s1 H' cs vs :=
  ⟨h.len, fun j x v a b => (h.at_ j x v a b).mono hX hs hH⟩
theorem Cs.nil {X : Claims} {s0 : Nat} {H : Heads} : Cs X s0 H [] [] := ⟨rfl, fun j x v a => by simp at a⟩
theorem Cs.cons {X : Claims} {s0 : Nat} {H : Heads} {x : AV} {v : Value} {cs : List AV} {vs : List Value} (h : C X s0 H x v) (t : Cs X s0 H cs vs) : Cs X s0 H (x :: cs) (v :: vs) :=
  ⟨by simp [t.len], fun j y u a b => by
    cases j with
    | zero => simp at a b; subst a; subst b; exact h
    | succ j => simp at a b; exact t.at_ j y u a b⟩
theorem Cs.append {X : Claims} {s0 : Nat} {H : Heads} {cs ds : List AV} {vs us : List Value} (h : Cs X s0 H cs vs) (t : Cs X s0 H ds us) : Cs X s0 H (cs ++ ds) (vs ++ us) :=
  ⟨by simp [h.len, t.len], fun j y u a b => by
    by_cases hj : j < cs.length
    · rw [List.getElem?_append_left hj] at a
      rw [List.getElem?_append_left (by have := h.len; omega)] at b
      exact h.at_ j y u a b
    · rw [List.getElem?_append_right (by omega)] at a
      rw [List.getElem?_append_right (by have := h.len; omega), h.len] at b
      exact t.at_ _ y u a b⟩
theorem Cs.set {X : Claims} {s0 : Nat} {H : Heads} {cs : List AV} {vs : List Value} {x : AV} {v : Value} (h : Cs X s0 H cs vs) (t : C X s0 H x v) (i : Nat) : Cs X s0 H (cs.set i x) (vs.set i v) :=
  ⟨by simp [h.len], fun j y u a b => by
    rw [List.getElem?_set] at a b
    by_cases e : i = j
    · subst e
      rw [if_pos rfl] at a b
      split at a
      · rw [if_pos (by have := h.len; omega)] at b
        injection a with a; injection b with b; subst a; subst b; exact t
      · cases a
    · rw [if_neg e] at a b
      exact h.at_ j y u a b⟩
theorem Cs.take {X : Claims} {s0 : Nat} {H : Heads} {cs : List AV} {vs : List Value} (h : Cs X s0 H cs vs) (n : Nat) : Cs X s0 H (cs.take n) (vs.take n) :=
  ⟨by simp [h.len], fun j y u a b => by
    rw [List.getElem?_take] at a b
    split at a
    · rw [if_pos (by assumption)] at b; exact h.at_ j y u a b
    · cases a⟩
theorem Cs.drop {X : Claims} {s0 : Nat} {H : Heads} {cs : List AV} {vs : List Value} (h : Cs X s0 H cs vs) (n : Nat) : Cs X s0 H (cs.drop n) (vs.drop n) :=
  ⟨by simp [h.len], fun j y u a b => by
    rw [List.getElem?_drop] at a b
    exact h.at_ _ y u a b⟩
theorem Cs.replicate {X : Claims} {s0 : Nat} {H : Heads} {x : AV} {v : Value} (h : C X s0 H x v) (n : Nat) : Cs X s0 H (List.replicate n x) (List.replicate n v) :=
  ⟨by simp, fun j y u a b => by
    rw [List.getElem?_replicate] at a b
    split at a
    · rw [if_pos (by assumption)] at b; injection a with a; injection b with b; subst a; subst b; exact h
    · cases a⟩

/-- What is held of a block of the call's own. -/
def BlkOK (X : Claims) (s0 : Nat) (S : Nat → Nat → Prop) (H : Heads) (w : World) (id : Nat) : Blk → Prop
  | .row g e k n cs => ∃ v xs, H id g = some v ∧ w.ownsRow 0 e k v n xs ∧ Cs X s0 H cs xs ∧ 0 < k ∧ ∀ b, hblk v = some b → (s0 ≤ b ∨ S id b) ∧ ∀ o, X b o = none
  | .box g t cs => ∃ b vals, H id g = some (.pointer (some ⟨b, 0, none⟩)) ∧ w.heap[b]? = some (.cells vals t (0, 0)) ∧ Cs X s0 H cs vals.toList ∧ (s0 ≤ b ∨ S id b) ∧ ∀ o, X b o = none
  | .mp g kt vt es => ∃ b ens clock, H id g = some (.map (some b)) ∧ w.heap[b]? = some (.map ens clock) ∧ ens.toList.map (·.key) = es.map (·.1) ∧ Cs X s0 H (es.map (·.2)) (ens.toList.map (·.val)) ∧ (s0 ≤ b ∨ S id b) ∧ ∀ o, X b o = none

/-- A row's block is that of its head. -/
theorem ownsRow_hblk {w : World} {base : Nat} {e : TypeId} {k : Nat} {v : Value} {n : Nat} {xs : List Value} (h : w.ownsRow base e k v n xs) : v.ownBlock = hblk v := by
  rcases h.2 with ⟨rfl, _⟩ | ⟨g, cap, cur, rfl, _⟩ <;> rfl

theorem BlkOK.kept {X X' : Claims} {s0 : Nat} {S : Nat → Nat → Prop} {H H' : Heads} {w w' : World} {id : Nat} {B : Blk} {row : Option Nat} (h : BlkOK X s0 S H w id B) (hX : X.le X') (hH : H.le H')
    (hg : w.grownBy w' row) (hne : ∀ v b, H id B.g = some v → hblk v = some b → some b ≠ row) (hnew : ∀ v b, H id B.g = some v → hblk v = some b → ∀ o, X' b o = none) : BlkOK X' s0 S H' w' id B := by
  cases B with
  | row g e k n cs =>
    obtain ⟨v, xs, h1, h2, h3, h4, h5⟩ := h
    refine ⟨v, xs, hH _ _ _ h1, h2.kept hg ?_, h3.mono hX (Nat.le_refl _) hH, h4, fun b hb => ⟨(h5 b hb).1, hnew v b h1 hb⟩⟩
    rw [ownsRow_hblk h2]
    cases hv : hblk v with
    | none => exact .inl rfl
    | some b => exact .inr (hne v b h1 hv)
  | box g t cs =>
    obtain ⟨b, vals, h1, h2, h3, h4, h5⟩ := h
    refine ⟨b, vals, hH _ _ _ h1, ?_, h3.mono hX (Nat.le_refl _) hH, h4, hnew _ b h1 rfl⟩
    rw [hg.block b (Array.getElem?_eq_some_iff.1 h2).1 (hne _ b h1 rfl)]; exact h2
  | mp g kt vt es =>
    obtain ⟨b, ens, clock, h1, h2, h3, h4, h5, h6⟩ := h
    refine ⟨b, ens, clock, hH _ _ _ h1, ?_, h3, h4.mono hX (Nat.le_refl _) hH, h5, hnew _ b h1 rfl⟩
    rw [hg.block b (Array.getElem?_eq_some_iff.1 h2).1 (hne _ b h1 rfl)]; exact h2

theorem BlkOK.head {X : Claims} {s0 : Nat} {S : Nat → Nat → Prop} {H : Heads} {w : World} {id : Nat} {B : Blk} (h : BlkOK X s0 S H w id B) : ∃ v, H id B.g = some v ∧ ∀ b, hblk v = some b → b < w.heap.size ∧ (s0 ≤ b ∨ S id b) ∧ ∀ o, X b o = none := by
  cases B with
  | row g e k n cs =>
    obtain ⟨v, xs, h1, h2, _, _, h5⟩ := h
    exact ⟨v, h1, fun b hb => ⟨(h2.lt b (by rw [ownsRow_hblk h2]; exact hb)).2, h5 b hb⟩⟩
  | box g t cs =>
    obtain ⟨b, vals, h1, h2, h3, h4, h5⟩ := h
    refine ⟨_, h1, fun b' hb => ?_⟩
    simp only [hblk, Option.some.injEq] at hb; subst hb
    exact ⟨(Array.getElem?_eq_some_iff.1 h2).1, h4, h5⟩
  | mp g kt vt es =>
    obtain ⟨b, ens, clock, h1, h2, h3, h4, h5, h6⟩ := h
    refine ⟨_, h1, fun b' hb => ?_⟩
    simp only [hblk, Option.some.injEq] at hb; subst hb
    exact ⟨(Array.getElem?_eq_some_iff.1 h2).1, h5, h6⟩

/-- Where a call began: its world, and what nobody writes there. -/
structure Base where
  w : World
  X : Claims
  /-- May nothing be made or turned? -/
  q : Bool
/-- The state and the machine's. -/
structure Sim (s0 : Nat) (S : Nat → Nat → Prop) (w0 : Base) (D : Nat → Prop) (X : Claims) (H : Heads) (st : St) (a : Act) (w : World) : Prop where
  sz : st.tm.length = a.tmps.size
  tm : ∀ j x, st.tm[j]? = some x → C X s0 H x (a.tmps.getD j undef)
  df : a.defers = []
  claims : ∀ b o v, X b o = some v → w.cell? ⟨b, o, none⟩ = some v
  blks : ∀ id B, st.M[id]? = some (some B) → BlkOK X s0 S H w id B
  inj : ∀ i j B B' v v' b, st.M[i]? = some (some B) → st.M[j]? = some (some B') → H i B.g = some v → H j B'.g = some v' → hblk v = some b → hblk v' = some b → i = j
  s0_eq : s0 = w0.w.heap.size
  x0 : ∀ b o v, X b o = some v → b < s0 → w0.X b o = some v
  size : s0 ≤ w.heap.size
  os : w.os = w0.w.os
  tape : w.tape = w0.w.tape
  output : w.output = w0.w.output
  old : ∀ k, k < s0 → (∀ id, ¬ S id k) → w.heap[k]? = w0.w.heap[k]?
  gens : ∀ id c i, (st.g < c ∨ (c = st.g ∧ ¬ D i)) → H id (c, i) = none
  inv : w0.q = true → ∃ n, w = w0.w.drewN n
end Go.Proofs.YtbpajecjaoefaaaGreat.V

/- The abstract machine: how a state moves as a block of the call's own is made or written, and as a row of its own is given up for writing. -/
namespace Go.Proofs.YtbpajecjaoefaaaGreat.V
open Go Go.RowKit

section
variable {s0 : Nat} {S : Nat → Nat → Prop} {w0 : Base} {D D' : Nat → Prop} {X X' : Claims} {H H' : Heads} {st : St} {a : Act} {w w' : World}

def St.put (st : St) (d : Option Nat) (x : AV) : St := match d with | some d => { st with tm := st.tm.set d x } | none => st

theorem Sim.put (h : Sim s0 S w0 D X H st a w) (d : Option Nat) {x : AV} {v : Value} (hx : C X s0 H x v) : Sim s0 S w0 D X H (st.put d x) (a.put d v) w := by
  cases d with
  | none => exact h
  | some d =>
    refine { h with sz := ?_, tm := ?_ }
    · simpa [St.put, Act.put] using h.sz
    · intro j y hj
      simp only [St.put, List.getElem?_set] at hj
      simp only [Act.put]
      by_cases e : d = j
      · subst e
        rw [if_pos rfl] at hj
        split at hj
        · injection hj with hj
          subst hj
          have : d < a.tmps.size := by rw [← h.sz]; assumption
          simpa [Array.getD, this] using hx
        · cases hj
      · rw [if_neg e] at hj
        have h1 := h.tm j y hj
        have e1 : (a.tmps.setIfInBounds d v).getD j undef = a.tmps.getD j undef := by
          simp only [Array.getD_eq_getD_getElem?, Array.getElem?_setIfInBounds, if_neg e]
        rw [e1]; exact h1

theorem Sim.done (h : Sim s0 S w0 D X H st a w) (hD : ∀ i, D i → D' i) : Sim s0 S w0 D' X H st a w :=
  { h with gens := fun id c i hc => h.gens id c i (hc.imp (fun x => x) fun ⟨e, hn⟩ => ⟨e, fun x => hn (hD i x)⟩) }

/-- Between regions. -/
theorem Sim.next (h : Sim s0 S w0 D X H st a w) : Sim s0 S w0 (fun _ => False) X H { st with g := st.g + 1 } a w :=
  { h with gens := fun id c i hc => h.gens id c i (by simp only at hc; left; rcases hc with hc | ⟨hc, _⟩ <;> omega) }

theorem Sim.drew (h : Sim s0 S w0 D X H st a w) : Sim s0 S w0 D X H st a w.drew :=
  { h with claims := h.claims, blks := h.blks, old := h.old, size := h.size, os := h.os, tape := h.tape, output := h.output, inv := fun e => by obtain ⟨n, hn⟩ := h.inv e; exact ⟨n + 1, by rw [hn]; rfl⟩ }

/-- The world grows; at most the block of 'row' turns, and 'row' is a block of one of the call's own. -/
theorem Sim.claims_grown (h : Sim s0 S w0 D X H st a w) {row : Option Nat} (hg : w.grownBy w' row) (hrow : ∀ b, row = some b → ∀ o, X b o = none) : ∀ b o v, X b o = some v → w'.cell? ⟨b, o, none⟩ = some v :=
  fun b o v hx => hg.cell (h.claims b o v hx) (fun e => by have := hrow b e.symm o; rw [hx] at this; cases this)

theorem Sim.old_grown (h : Sim s0 S w0 D X H st a w) {row : Option Nat} (hg : w.grownBy w' row) (hrow : ∀ b, row = some b → s0 ≤ b ∨ ∃ id, S id b) : ∀ k, k < s0 → (∀ id, ¬ S id k) → w'.heap[k]? = w0.w.heap[k]? := by
  intro k hk hn
  rw [hg.block k (Nat.lt_of_lt_of_le hk h.size) ?_]
  · exact h.old k hk hn
  · intro e
    rcases hrow k e.symm with h1 | ⟨id, h1⟩
    · omega
    · exact hn id h1

/-- A block of the call's own is written in place. -/
theorem Sim.same (h : Sim s0 S w0 D X H st a w) {id : Nat} {B B' : Blk} {v : Value} (hM : st.M[id]? = some (some B)) (hv : H id B.g = some v) (hj : w0.q = true → ∃ n, w' = w0.w.drewN n) (hg : w.grownBy w' (hblk v)) (hB : B'.g = B.g)
    (hok : BlkOK X s0 S H w' id B') : Sim s0 S w0 D X H { st with M := st.M.set id (some B') } a w' := by
  obtain ⟨v1, hv1, hb1⟩ := (h.blks id B hM).head
  obtain rfl : v = v1 := by rw [hv] at hv1; injection hv1
  have hlt : id < st.M.length := (List.getElem?_eq_some_iff.1 hM).1
  refine { h with claims := h.claims_grown hg (fun b e => (hb1 b e).2.2), old := h.old_grown hg (fun b e => (hb1 b e).2.1.imp (fun x => x) fun x => ⟨id, x⟩), size := Nat.le_trans h.size hg.size, os := hg.os.trans h.os, tape := hg.tape.trans h.tape, output := hg.output.trans h.output, blks := ?_, inj := ?_, inv := hj }
  · intro j E hE
    simp only [List.getElem?_set] at hE
    by_cases e : id = j
    · subst e
      rw [if_pos rfl, if_pos hlt] at hE
      injection hE with hE; injection hE with hE; subst hE; exact hok
    · rw [if_neg e] at hE
      have hE' := h.blks j E hE
      obtain ⟨u, hu, hub⟩ := hE'.head
      refine hE'.kept (Claims.le.refl X) (Heads.le.refl H) hg ?_ ?_
      · intro u' b hu' hb he
        obtain rfl : u = u' := by rw [hu] at hu'; injection hu'
        exact e (h.inj id j B E v u b hM hE hv hu he.symm hb)
      · intro u' b hu' hb
        obtain rfl : u = u' := by rw [hu] at hu'; injection hu'
        exact (hub b hb).2.2
  · intro i j E E' u u' b hi hj hu hu' hb hb'
    simp only [List.getElem?_set] at hi hj
    have key : ∀ i E u, (if id = i then if id < st.M.length then some (some B') else none else st.M[i]?) = some (some E) → H i E.g = some u → ∃ F, st.M[i]? = some (some F) ∧ H i F.g = some u := by
      intro i E u hi hu
      by_cases e : id = i
      · subst e
        rw [if_pos rfl, if_pos hlt] at hi
        injection hi with hi; injection hi with hi; subst hi
        exact ⟨B, hM, by rw [← hB]; exact hu⟩
      · rw [if_neg e] at hi; exact ⟨E, hi, hu⟩
    obtain ⟨F, hF, hFu⟩ := key i E u hi hu
    obtain ⟨F', hF', hFu'⟩ := key j E' u' hj hu'
    exact h.inj i j F F' u u' b hF hF' hFu hFu' hb hb'

def Heads.upd (H : Heads) (id : Nat) (g : Gen) (v : Value) : Heads := fun i g' => if i = id ∧ g' = g then some v else H i g'
theorem Heads.upd_le {id : Nat} {g : Gen} {v : Value} (h : H id g = none) : H.le (H.upd id g v) := by
  intro i g' u hu
  unfold Heads.upd
  split
  · rename_i e; obtain ⟨rfl, rfl⟩ := e; rw [h] at hu; cases hu
  · exact hu
theorem Heads.upd_same (id : Nat) (g : Gen) (v : Value) : H.upd id g v id g = some v := by simp [Heads.upd]
theorem Heads.upd_other {id i : Nat} {g g' : Gen} {v : Value} (h : ¬ (i = id ∧ g' = g)) : H.upd id g v i g' = H i g' := by simp [Heads.upd, h]

/-- A block of the call's own is made, or takes a new generation. -/
theorem Sim.fresh (h : Sim s0 S w0 D X H st a w) {id i : Nat} {B' : Blk} {v : Value} (hi : ¬ D i) (hid : id < st.M.length) {row : Option Nat} (hj : w0.q = true → ∃ n, w' = w0.w.drewN n) (hg : w.grownBy w' row)
    (hrow : ∀ b, row = some b → ∃ B u, st.M[id]? = some (some B) ∧ H id B.g = some u ∧ hblk u = some b) (hB : B'.g = (st.g, i)) (hnew : ∀ b, hblk v = some b → w.heap.size ≤ b ∨ row = some b)
    (hok : BlkOK X s0 S (H.upd id (st.g, i) v) w' id B') : Sim s0 S w0 (fun j => D j ∨ j = i) X (H.upd id (st.g, i) v) { st with M := st.M.set id (some B') } a w' := by
  have hnone : H id (st.g, i) = none := h.gens id st.g i (.inr ⟨rfl, hi⟩)
  have hle : H.le (H.upd id (st.g, i) v) := Heads.upd_le hnone
  have hX : ∀ b, row = some b → ∀ o, X b o = none := fun b e => by
    obtain ⟨B, u, hM, hu, hb⟩ := hrow b e
    obtain ⟨u1, hu1, hb1⟩ := (h.blks id B hM).head
    obtain rfl : u = u1 := by rw [hu] at hu1; injection hu1
    exact (hb1 b hb).2.2
  have hS : ∀ b, row = some b → s0 ≤ b ∨ ∃ id, S id b := fun b e => by
    obtain ⟨B, u, hM, hu, hb⟩ := hrow b e
    obtain ⟨u1, hu1, hb1⟩ := (h.blks id B hM).head
    obtain rfl : u = u1 := by rw [hu] at hu1; injection hu1
    exact (hb1 b hb).2.1.imp (fun x => x) fun x => ⟨id, x⟩
  -- an elder block keeps its head
  have hold : ∀ j E, j ≠ id → st.M[j]? = some (some E) → ∃ u, H j E.g = some u ∧ (H.upd id (st.g, i) v) j E.g = some u ∧ ∀ b, hblk u = some b → b < w.heap.size ∧ some b ≠ row := by
    intro j E hj hE
    obtain ⟨u, hu, hub⟩ := (h.blks j E hE).head
    refine ⟨u, hu, hle _ _ _ hu, fun b hb => ⟨(hub b hb).1, fun e => ?_⟩⟩
    obtain ⟨B, u2, hM, hu2, hb2⟩ := hrow b e.symm
    exact hj (h.inj j id E B u u2 b hE hM hu hu2 hb hb2)
  refine { sz := h.sz, df := h.df, tm := fun j x hj => (h.tm j x hj).mono (Claims.le.refl X) (Nat.le_refl _) hle, claims := h.claims_grown hg hX, old := h.old_grown hg hS, s0_eq := h.s0_eq, x0 := h.x0, size := Nat.le_trans h.size hg.size, os := hg.os.trans h.os, tape := hg.tape.trans h.tape, output := hg.output.trans h.output, blks := ?_, inj := ?_, gens := ?_, inv := hj }
  · intro j E hE
    simp only [List.getElem?_set] at hE
    by_cases e : id = j
    · subst e
      rw [if_pos rfl, if_pos hid] at hE
      injection hE with hE; injection hE with hE; subst hE; exact hok
    · rw [if_neg e] at hE
      obtain ⟨u, hu, hu', hub⟩ := hold j E (fun x => e x.symm) hE
      refine (h.blks j E hE).kept (Claims.le.refl X) hle hg ?_ ?_
      · intro u2 b hu2 hb
        obtain rfl : u = u2 := by rw [hu] at hu2; injection hu2
        exact (hub b hb).2
      · intro u2 b hu2 hb
        obtain ⟨u3, hu3, hb3⟩ := (h.blks j E hE).head
        obtain rfl : u2 = u3 := by rw [hu2] at hu3; injection hu3
        exact (hb3 b hb).2.2
  · have key : ∀ p q E E' u u' b, p ≠ q → (if id = p then if id < st.M.length then some (some B') else none else st.M[p]?) = some (some E) → (if id = q then if id < st.M.length then some (some B') else none else st.M[q]?) = some (some E') →
        (H.upd id (st.g, i) v) p E.g = some u → (H.upd id (st.g, i) v) q E'.g = some u' → hblk u = some b → hblk u' = some b → id = p → False := by
      intro p q E E' u u' b hpq hp hq hu hu' hb hb' e
      subst e
      rw [if_pos rfl, if_pos hid] at hp
      injection hp with hp; injection hp with hp; subst hp
      rw [if_neg hpq] at hq
      rw [hB, Heads.upd_same] at hu
      injection hu with hu; subst hu
      obtain ⟨u2, _, hu2, hub⟩ := hold q E' (fun x => hpq x.symm) hq
      obtain rfl : u' = u2 := by rw [hu'] at hu2; injection hu2
      have := hub b hb'
      rcases hnew b hb with h1 | h1
      · omega
      · exact this.2 h1.symm
    intro p q E E' u u' b hp hq hu hu' hb hb'
    simp only [List.getElem?_set] at hp hq
    apply Classical.byContradiction
    intro hpq
    by_cases e : id = p
    · exact key p q E E' u u' b hpq hp hq hu hu' hb hb' e
    · by_cases e' : id = q
      · exact key q p E' E u' u b (fun x => hpq x.symm) hq hp hu' hu hb' hb e'
      · rw [if_neg e] at hp
        rw [if_neg e'] at hq
        obtain ⟨u2, h2, h2', _⟩ := hold p E (fun x => e x.symm) hp
        obtain ⟨u3, h3, h3', _⟩ := hold q E' (fun x => e' x.symm) hq
        obtain rfl : u = u2 := by rw [hu] at h2'; injection h2'
        obtain rfl : u' = u3 := by rw [hu'] at h3'; injection h3'
        exact hpq (h.inj p q E E' u u' b hp hq h2 h3 hb hb')
  · intro j c m hc
    have hn : ¬ (j = id ∧ (c, m) = (st.g, i)) := by
      rintro ⟨_, e⟩
      injection e with e1 e2
      subst e1; subst e2
      rcases hc with hc | ⟨_, hc⟩
      · simp only at hc; omega
      · exact hc (.inr rfl)
    rw [Heads.upd_other hn]
    exact h.gens j c m (hc.imp (fun x => x) fun ⟨e, x⟩ => ⟨e, fun y => x (.inl y)⟩)
end
end Go.Proofs.YtbpajecjaoefaaaGreat.V

/- The abstract machine: its operations, and what each does to a state. -/
namespace Go.Proofs.YtbpajecjaoefaaaGreat.V
open Go Go.RowKit

inductive Opd where
  | r (j : Nat)
  | k (v : Value)
  | fn (f : Nat)

/-- A constant's abstract value. -/
def litOf : Value → AV
  | .agg cs => .agg (cs.toList.map .lit)
  | v => .lit v

def St.ev (st : St) : Opd → AV
  | .r j => st.tm.getD j .junk
  | .k v => litOf v
  | .fn f => .clo f []

inductive AO where
  | mov (x : Opd)
  | nilr (id : Nat) (e : TypeId) (k : Nat)
  | nilf (lab : Bool) (k : Nat)
  | pick (c x y : Opd)
  | bin (b : BinOp) (x y : Opd)
  | beq (neg : Bool) (x y : Opd)
  | aeq (neg : Bool) (ds : List TypeDesc) (x y : Opd)
  | un (u : UnOp) (x : Opd)
  | conv (k : IntKind) (x : Opd)
  | len (x : Opd)
  | lenm (x : Opd)
  | lens (x : Opd)
  | b2s (x : Opd)
  | nck (x : Opd)
  | idxA (k : Nat) (x i : Opd)
  | fldA (off n : Nat) (x : Opd)
  | load (n : Nat) (ag : Bool) (x : Opd)
  | store (n : Nat) (x v : Opd)
  | idxS (x i : Opd)
  | slc (k : Nat) (x : Opd) (lo hi : Option Opd)
  | sls (x : Opd) (lo hi : Option Opd)
  | mk (id : Nat) (e : TypeId) (k by_ : Nat) (z : List Value) (x y : Opd)
  | sl (id : Nat) (e : TypeId) (k len : Nat) (z : List Value) (parts : List (Nat × Opd))
  | app (id : Nat) (e : TypeId) (k by_ : Nat) (x y : Opd)
  | bld (z : List Value) (parts : List (Nat × Nat × Opd))
  | fld (off n : Nat) (ag : Bool) (x : Opd)
  | ext (i : Nat) (x : Opd)
  | box (id : Nat) (t : TypeId) (n : Nat) (x : Opd)
  | alc (id : Nat) (t : TypeId) (z : List Value)
  | mkm (id : Nat) (kt vt : TypeId)
  | lkp (ok : Bool) (kd : TypeDesc) (z : Value) (m k : Opd)
  | mset (kd : TypeDesc) (m k v : Opd)
  | ifc (t : TypeId) (x : Opd)
  | clo (f : Nat) (xs : List Opd)
  | call (f : Nat) (xs : List Opd)

def semVal (s : Sem Value) : Option Value := match s with | .pure v => some v | _ => none
theorem semVal_run {s : Sem Value} {v : Value} (h : semVal s = some v) (P : Program) (w : World) : s.run P w = .ok v w := by
  cases s <;> simp [semVal] at h
  subst h; rfl

/-- Are these two whole numbers or two strings? -/
def plain2 : Value → Value → Bool
  | .int _ _, .int _ _ => true
  | .string _, .string _ => true
  | _, _ => false

/-- A value's cells. -/
def avc : AV → List AV
  | .agg cs => cs
  | x => [x]
def av1 : AV → Bool
  | .lit v => v.oneCell'
  | .agg _ | .tup _ | .junk => false
  | _ => true
/-- Can it be stored, cell by cell? -/
def avs : AV → Bool
  | .agg cs => cs.all av1
  | x => av1 x

def St.blk (st : St) (id : Nat) (g : Gen) : Option Blk :=
  match st.M[id]? with
  | some (some B) => if B.g = g then some B else none
  | _ => none

/-- The cells at a place. -/
def St.cells (st : St) : AV → Option (List AV)
  | .ptr id g off => match st.blk id g with
    | some (.row _ _ _ _ cs) => some (cs.drop off)
    | some (.box _ _ cs) => some (cs.drop off)
    | _ => none
  | .fptr cs => some cs
  | _ => none

def splice (cs : List AV) (off : Nat) : List AV → List AV
  | [] => cs
  | x :: xs => splice (cs.set off x) (off + 1) xs

/-- What a slice holds: its elements' size is k. -/
def St.row (st : St) (k : Nat) : AV → Option (Nat × List AV)
  | .own id g => match st.blk id g with | some (.row _ _ k' n cs) => if k' = k then some (n, cs) else none | _ => none
  | .sub id g k' off len => match st.blk id g with | some (.row _ _ k2 n cs) => if k' = k ∧ k2 = k ∧ off + len ≤ n then some (len, (cs.drop (off * k)).take (len * k)) else none | _ => none
  | .frz _ k' n cs => if k' = k ∨ n = 0 then some (n, cs) else none
  | .lit (.slice none 0 0) => some (0, [])
  | _ => none

def bt (s : ByteArray) (n : Int) : Int := ((s.data.getD n.toNat 0).toNat : Int)
def intOf' : AV → Option Int
  | .lit (.int _ n) => some n
  | _ => none
def strOf' : AV → Option ByteArray
  | .lit (.string s) => some s
  | _ => none

def St.bnd (st : St) (y : Option Opd) (d : Int) : Option Int := match y with | some y => intOf' (st.ev y) | none => some d
def keyOK : TypeDesc → Value → Bool
  | .bool, .bool _ => true
  | .int k, .int k' _ => k' == k
  | .string, .string _ => true
  | _, _ => false
/-- The entry of a key. -/
def mfindA (kd : TypeDesc) (k : Value) : List (Value × AV) → Option (Option AV)
  | [] => some none
  | e :: es => match Instr.sameNow kd k e.1 with
    | some true => some (some e.2)
    | some false => mfindA kd k es
    | none => none
def msetA (kd : TypeDesc) (k : Value) (v : AV) : List (Value × AV) → Option (List (Value × AV))
  | [] => some [(k, v)]
  | e :: es => match Instr.sameNow kd k e.1 with
    | some true => some ((k, v) :: es)
    | some false => (msetA kd k v es).map (e :: ·)
    | none => none

/-- Are two composites equal, field by field? -/
def eqA : List TypeDesc → List AV → List AV → Option Bool
  | [], _, _ => some true
  | .int _ :: ds, .lit (.int k a) :: xs, .lit (.int k' b) :: ys => if k = k' then (if a = b then eqA ds xs ys else some false) else none
  | .bool :: ds, .lit (.bool a) :: xs, .lit (.bool b) :: ys => if a = b then eqA ds xs ys else some false
  | _, _, _ => none
/-- Bytes, and the string of them. -/
def u8s : List AV → Option (List Int)
  | [] => some []
  | x :: cs => match x with
    | .lit (.int .u8 z) => (u8s cs).map (z :: ·)
    | _ => none
def pushAll (l : List Int) : ByteArray := l.foldl (fun r n => r.push (UInt8.ofNat n.toNat)) ByteArray.empty
/-- Does it neither make nor turn anything? -/
def quietAO : AO → Bool
  | .store _ _ _ | .mk _ _ _ _ _ _ _ | .sl _ _ _ _ _ _ | .app _ _ _ _ _ _ | .box _ _ _ _ | .alc _ _ _ | .mkm _ _ _ | .mset _ _ _ _ => false
  | _ => true
theorem q_false {w0q : Bool} {p : Prop} (h : w0q = false) : w0q = true → p := fun e => by rw [h] at e; cases e
/-- One operation: the value that it hands over, and the blocks behind it. -/
def astep (i : Nat) (st : St) : AO → Option (AV × List (Option Blk))
  | .mov x => some (st.ev x, st.M)
  | .nilr id e k => if id < st.M.length ∧ 0 < k then some (.own id (st.g, i), st.M.set id (some (.row (st.g, i) e k 0 []))) else none
  | .nilf lab k => some (.frz lab k 0 [], st.M)
  | .pick c x y => match st.ev c with
    | .lit (.bool true) => some (st.ev x, st.M)
    | .lit (.bool false) => some (st.ev y, st.M)
    | _ => none
  | .bin b x y => match st.ev x, st.ev y with
    | .lit u, .lit v => if plain2 u v then (semVal (binOp b 0 u v)).map fun r => (.lit r, st.M) else none
    | _, _ => none
  | .beq neg x y => match st.ev x, st.ev y with
    | .lit (.bool u), .lit (.bool v) => some (.lit (.bool (if neg then !(u == v) else (u == v))), st.M)
    | _, _ => none
  | .aeq neg ds x y => match st.ev x, st.ev y with
    | .agg xs, .agg ys => (eqA ds xs ys).map fun b => (.lit (.bool (if neg then !b else b)), st.M)
    | _, _ => none
  | .un u x => match st.ev x with
    | .lit v => (semVal (Op.unary u v)).map fun r => (.lit r, st.M)
    | _ => none
  | .conv k x => match st.ev x with
    | .lit (.int _ n) => some (.lit (.int k (k.wrap n)), st.M)
    | _ => none
  | .lens x => match st.ev x with
    | .lit (.string s) => some (.lit (.int .i64 s.size), st.M)
    | _ => none
  | .b2s x => match st.row 1 (st.ev x) with
    | some (_, cs) => (u8s cs).map fun l => (.lit (.string (pushAll l)), st.M)
    | none => none
  | .nck x => match st.ev x with
    | .ptr id g off => some (.ptr id g off, st.M)
    | .fptr cs => some (.fptr cs, st.M)
    | _ => none
  | .len x => match st.ev x with
    | .own id g => match st.blk id g with | some (.row _ _ _ n _) => some (.lit (.int .i64 n), st.M) | _ => none
    | .sub _ _ _ _ len => some (.lit (.int .i64 len), st.M)
    | .frz _ _ n _ => some (.lit (.int .i64 n), st.M)
    | .lit (.slice none 0 0) => some (.lit (.int .i64 0), st.M)
    | _ => none
  | .lenm x => match st.ev x with
    | .mapr id g => match st.blk id g with | some (.mp _ _ _ es) => some (.lit (.int .i64 es.length), st.M) | _ => none
    | _ => none
  | .idxA k x j => match intOf' (st.ev j) with
    | some n => match st.ev x with
      | .own id g => match st.blk id g with
        | some (.row _ _ k' m _) => if k' = k ∧ 0 ≤ n ∧ n < m then some (.ptr id g (n.toNat * k), st.M) else none
        | _ => none
      | .sub id g k' off len => if k' = k ∧ 0 ≤ n ∧ n < len then some (.ptr id g ((off + n.toNat) * k), st.M) else none
      | .frz _ k' m cs => if k' = k ∧ 0 ≤ n ∧ n < m then some (.fptr ((cs.drop (n.toNat * k)).take k), st.M) else none
      | _ => none
    | none => none
  | .fldA off n x => match st.ev x with
    | .ptr id g o => some (.ptr id g (o + off), st.M)
    | .fptr cs => if off + n ≤ cs.length then some (.fptr ((cs.drop off).take n), st.M) else none
    | _ => none
  | .load n ag x => match st.cells (st.ev x) with
    | some cs => if n ≤ cs.length then
        if ag then some (.agg (cs.take n), st.M) else match n, cs with | 1, c :: _ => some (c, st.M) | _, _ => none
      else none
    | none => none
  | .store n x v => match st.ev x with
    | .ptr id g off => if (avc (st.ev v)).length = n ∧ avs (st.ev v) then
        match st.blk id g with
        | some (.row _ e k m cs) => if off + n ≤ cs.length then some (.junk, st.M.set id (some (.row g e k m (splice cs off (avc (st.ev v)))))) else none
        | some (.box _ t cs) => if off + n ≤ cs.length then some (.junk, st.M.set id (some (.box g t (splice cs off (avc (st.ev v)))))) else none
        | _ => none
      else none
    | _ => none
  | .idxS x j => match strOf' (st.ev x), intOf' (st.ev j) with
    | some s, some n => if 0 ≤ n ∧ n < s.size then some (.lit (.int .u8 (bt s n)), st.M) else none
    | _, _ => none
  | .slc k x lo hi => match st.row k (st.ev x) with
    | some (n, cs) => match st.bnd lo 0, st.bnd hi n with
      | some l, some h => if 0 ≤ l ∧ l ≤ h ∧ h ≤ n then
          if l = h then some (.frz false k 0 [], st.M) else match st.ev x with
          | .own id g => some (.sub id g k l.toNat (h.toNat - l.toNat), st.M)
          | .sub id g k' off len => some (.sub id g k' (off + l.toNat) (h.toNat - l.toNat), st.M)
          | .frz lab k' m cs' => some (.frz lab k' (h.toNat - l.toNat) ((cs'.drop (l.toNat * k)).take ((h.toNat - l.toNat) * k)), st.M)
          | _ => none
        else none
      | _, _ => none
    | none => none
  | .sls x lo hi => match strOf' (st.ev x) with
    | some s => match st.bnd lo 0, st.bnd hi s.size with
      | some l, some h => if 0 ≤ l ∧ l ≤ h ∧ h ≤ s.size then some (.lit (.string (s.extract l.toNat h.toNat)), st.M) else none
      | _, _ => none
    | none => none
  | .mk id e k by_ z x y => match intOf' (st.ev x), intOf' (st.ev y) with
    | some n, some c => if id < st.M.length ∧ 0 < k ∧ z.length = k ∧ 0 ≤ n ∧ (n = c ∨ n = 0) ∧ 0 ≤ c ∧ by_ * c ≤ 281474976710656 ∧ c ≤ 9223372036854775807 then
        some (.own id (st.g, i), st.M.set id (some (.row (st.g, i) e k n.toNat ((List.replicate n.toNat (z.map AV.lit)).flatten)))) else none
    | _, _ => none
  | .sl id e k len z parts => if id < st.M.length ∧ 0 < k ∧ z.length = k ∧ len * k ≤ 16777216 ∧ len ≤ 9223372036854775807 ∧ parts.all (fun p => avs (st.ev p.2) && (avc (st.ev p.2)).length == k && p.1 < len) then
      some (.own id (st.g, i), st.M.set id (some (.row (st.g, i) e k len (parts.foldl (fun cs p => splice cs (p.1 * k) (avc (st.ev p.2))) ((List.replicate len (z.map AV.lit)).flatten))))) else none
  | .app id e k by_ x y => match st.row k (st.ev y) with
    | some (m, ds) => match st.ev x with
      | .own id' g => match st.blk id' g with
        | some (.row _ e' k' n cs) => if k' = k ∧ e' = e ∧ (n + m) * by_ ≤ 140737488355328 ∧ n + m ≤ 9223372036854775807 ∧ ds.all av1 then
            some (.own id' (st.g, i), st.M.set id' (some (.row (st.g, i) e k (n + m) (cs ++ ds)))) else none
        | _ => none
      | .lit (.slice none 0 0) => if id < st.M.length ∧ 0 < k ∧ m * by_ ≤ 140737488355328 ∧ m ≤ 9223372036854775807 ∧ ds.all av1 then
            some (.own id (st.g, i), st.M.set id (some (.row (st.g, i) e k m ds))) else none
      | _ => none
    | none => none
  | .bld z parts => if parts.all (fun p => avs (st.ev p.2.2) && (avc (st.ev p.2.2)).length == p.2.1 && decide (p.1 + p.2.1 ≤ z.length)) then
      some (.agg (parts.foldl (fun cs p => splice cs p.1 (avc (st.ev p.2.2))) (z.map AV.lit)), st.M) else none
  | .fld off n ag x => match st.ev x with
    | .agg cs => if off + n ≤ cs.length then if ag then some (.agg ((cs.drop off).take n), st.M) else (if n = 1 then (cs[off]?).map fun c => (c, st.M) else none) else none
    | _ => none
  | .ext j x => match st.ev x with
    | .tup vs => (vs[j]?).map fun v => (v, st.M)
    | _ => none
  | .box id t n x => if id < st.M.length ∧ avs (st.ev x) ∧ (avc (st.ev x)).length = n then some (.ptr id (st.g, i) 0, st.M.set id (some (.box (st.g, i) t (avc (st.ev x))))) else none
  | .alc id t z => if id < st.M.length then some (.ptr id (st.g, i) 0, st.M.set id (some (.box (st.g, i) t (z.map AV.lit)))) else none
  | .mkm id kt vt => if id < st.M.length then some (.mapr id (st.g, i), st.M.set id (some (.mp (st.g, i) kt vt []))) else none
  | .lkp ok kd z m k => match st.ev m, st.ev k with
    | .mapr id g, .lit kv => match st.blk id g with
      | some (.mp _ _ _ es) => if keyOK kd kv then (mfindA kd kv es).map fun r => (if ok then .tup [r.getD (litOf z), .lit (.bool r.isSome)] else r.getD (litOf z), st.M) else none
      | _ => none
    | _, _ => none
  | .mset kd m k v => match st.ev m, st.ev k with
    | .mapr id g, .lit kv => match st.blk id g with
      | some (.mp _ kt vt es) => if keyOK kd kv then (msetA kd kv (st.ev v) es).map fun es' => (.junk, st.M.set id (some (.mp g kt vt es'))) else none
      | _ => none
    | _, _ => none
  | .ifc t x => some (.ifc t (st.ev x), st.M)
  | .clo f xs => some (.clo f (xs.map st.ev), st.M)
  | .call _ _ => none
end Go.Proofs.YtbpajecjaoefaaaGreat.V

/- The abstract machine: each operation is what the model does (1). -/
namespace Go.Proofs.YtbpajecjaoefaaaGreat.V
open Go Go.RowKit

def opd : Operand → Option Opd
  | .tmp t => some (.r t)
  | .const v => some (.k v)
  | .func f => some (.fn f)
  | .global _ => none

section
variable {P : Program} {s0 : Nat} {S : Nat → Nat → Prop} {w0 : Base} {D : Nat → Prop} {X : Claims} {H : Heads} {st : St} {a : Act} {w : World}

theorem C.litOf (v : Value) : C X s0 H (litOf v) v := by
  unfold V.litOf
  split
  · rename_i cs
    refine .agg (by simp) fun j x u hx hu => ?_
    rw [List.getElem?_map] at hx
    rw [Array.getElem?_toList] at hx
    cases e : cs[j]? with
    | none => rw [e] at hx; cases hx
    | some y => rw [e] at hx hu; injection hx with hx; injection hu with hu; subst hx; subst hu; exact .lit _
  · exact .lit v

theorem Sim.ev (h : Sim s0 S w0 D X H st a w) {x : Operand} {x' : Opd} (hx : opd x = some x') : C X s0 H (st.ev x') (a.eval x) := by
  cases x with
  | tmp t =>
    simp only [opd, Option.some.injEq] at hx; subst hx
    simp only [St.ev, Act.eval, List.getD_eq_getElem?_getD]
    cases e : st.tm[t]? with
    | none => simpa using C.junk _
    | some y => simpa using h.tm t y e
  | const v => simp only [opd, Option.some.injEq] at hx; subst hx; exact C.litOf v
  | func f => simp only [opd, Option.some.injEq] at hx; subst hx; exact .clo rfl (fun j x v hx => by simp at hx)
  | global g => cases hx

/-- What an operation does. -/
def Does (P : Program) (s0 : Nat) (S : Nat → Nat → Prop) (w0 : Base) (D : Nat → Prop) (X : Claims) (H : Heads) (i : Nat) (st : St) (a : Act) (w : World) (s : Sem Next) (x : AV) (M' : List (Option Blk)) : Prop :=
  ∃ v w' H', (s.run P w = .ok (.value v) w' ∨ s.run P w = .ok .skip w' ∧ v = undef) ∧ H.le H' ∧ Sim s0 S w0 (fun j => D j ∨ j = i) X H' { st with M := M' } a w' ∧ C X s0 H' x v

theorem Does.still {i : Nat} {s : Sem Next} {x : AV} {v : Value} (h : Sim s0 S w0 D X H st a w) (hr : s.run P w = .ok (.value v) w) (hx : C X s0 H x v) : Does P s0 S w0 D X H i st a w s x st.M :=
  ⟨v, w, H, .inl hr, Heads.le.refl H, h.done fun _ => .inl, hx⟩

/-- A value that only hands on. -/
theorem run_v {s : Sem Value} {v : Value} {w' : World} (h : s.run P w = .ok v w') : (do pure (Next.value (← s)) : Sem Next).run P w = .ok (.value v) w' := by simp [h]
theorem run_u {s : Sem Unit} {w' : World} (h : s.run P w = .ok () w') : (do s; pure Next.skip : Sem Next).run P w = .ok .skip w' := by simp [h]

-- what C says of what a value looks like
theorem C.int {n : Int} {k : IntKind} {v : Value} (h : C X s0 H (.lit (.int k n)) v) : v = .int k n := by cases h; rfl
theorem C.lit' {u v : Value} (h : C X s0 H (.lit u) v) : v = u := by cases h; rfl
theorem C.intOf {x : AV} {n : Int} {v : Value} (h : C X s0 H x v) (hn : intOf' x = some n) : ∃ k, v = .int k n ∧ x = .lit (.int k n) := by
  unfold intOf' at hn
  split at hn
  · rename_i k m; injection hn with hn; subst hn; cases h; exact ⟨k, rfl, rfl⟩
  · cases hn
theorem C.strOf {x : AV} {s : ByteArray} {v : Value} (h : C X s0 H x v) (hn : strOf' x = some s) : v = .string s := by
  unfold strOf' at hn
  split at hn
  · injection hn with hn; subst hn; cases h; rfl
  · cases hn

theorem snd_mov (h : Sim s0 S w0 D X H st a w) {x : Operand} {x' : Opd} (hx : opd x = some x') (i : Nat) : Does P s0 S w0 D X H i st a w (pure (.value (a.eval x))) (st.ev x') st.M :=
  .still h rfl (h.ev hx)

theorem snd_pick (h : Sim s0 S w0 D X H st a w) {c x y : Operand} {c' x' y' : Opd} (hc : opd c = some c') (hx : opd x = some x') (hy : opd y = some y') {i : Nat} {r : AV} {M' : List (Option Blk)}
    (hs : astep i st (.pick c' x' y') = some (r, M')) : Does P s0 S w0 D X H i st a w (do pure (.value (if ← asBool (a.eval c) then a.eval x else a.eval y))) r M' := by
  simp only [astep] at hs
  have h1 := h.ev hc
  split at hs
  · rename_i e; rw [e] at h1; have h2 := h1.lit'
    injection hs with hs; injection hs with e1 e2; subst e1; subst e2
    exact .still h (by simp [h2, asBool]) (h.ev hx)
  · rename_i e; rw [e] at h1; have h2 := h1.lit'
    injection hs with hs; injection hs with e1 e2; subst e1; subst e2
    exact .still h (by simp [h2, asBool]) (h.ev hy)
  · cases hs

theorem binOp_plain {b : BinOp} {t : TypeId} {u v : Value} (hp : plain2 u v = true) : binOp b t u v = binOp b 0 u v := by
  unfold plain2 at hp
  split at hp
  · cases b <;> rfl
  · cases b <;> rfl
  · cases hp

theorem snd_bin (h : Sim s0 S w0 D X H st a w) {b : BinOp} {t : TypeId} {x y : Operand} {x' y' : Opd} (hx : opd x = some x') (hy : opd y = some y') {i : Nat} {r : AV} {M' : List (Option Blk)}
    (hs : astep i st (.bin b x' y') = some (r, M')) : Does P s0 S w0 D X H i st a w (do pure (Next.value (← (do eqGuard b t x y (a.eval x) (a.eval y); binOp b t (a.eval x) (a.eval y))))) r M' := by
  simp only [astep] at hs
  have h1 := h.ev hx
  have h2 := h.ev hy
  split at hs
  · rename_i u v e1 e2
    rw [e1] at h1; rw [e2] at h2
    split at hs
    · rename_i hp
      cases hr : semVal (binOp b 0 u v) with
      | none => rw [hr] at hs; cases hs
      | some z =>
        rw [hr] at hs
        injection hs with hs; injection hs with e3 e4; subst e3; subst e4
        refine .still h (v := z) ?_ (.lit _)
        have hg : (eqGuard b t x y (a.eval x) (a.eval y)).run P w = .ok () w := by
          rw [h1.lit', h2.lit']
          unfold plain2 at hp
          split at hp
          · cases b <;> rfl
          · cases b <;> rfl
          · cases hp
        have hb : (binOp b t (a.eval x) (a.eval y)).run P w = .ok z w := by
          rw [h1.lit', h2.lit', binOp_plain hp]; exact semVal_run hr P w
        simp [hg, hb]
    · cases hs
  · cases hs

theorem snd_beq (h : Sim s0 S w0 D X H st a w) {neg : Bool} {t : TypeId} {x y : Operand} {x' y' : Opd} (ht : P.underlying t = some .bool) (hx : opd x = some x') (hy : opd y = some y') {i : Nat} {r : AV} {M' : List (Option Blk)}
    (hs : astep i st (.beq neg x' y') = some (r, M')) :
    Does P s0 S w0 D X H i st a w (do pure (Next.value (← (do eqGuard (if neg then .neq else .eql) t x y (a.eval x) (a.eval y); binOp (if neg then .neq else .eql) t (a.eval x) (a.eval y))))) r M' := by
  simp only [astep] at hs
  have h1 := h.ev hx
  have h2 := h.ev hy
  split at hs
  · rename_i u v e1 e2
    rw [e1] at h1; rw [e2] at h2
    injection hs with hs; injection hs with e3 e4; subst e3; subst e4
    refine .still h ?_ (.lit _)
    rw [h1.lit', h2.lit']
    cases neg
    · simp [eqGuard, run_eql_bool (P := P) w t u v ht]
    · simp [eqGuard, run_neq_bool (P := P) w t u v ht]
  · cases hs

/-- The kinds of a struct's fields, if each is one cell that can be compared alone. -/
def flatF (P : Program) : Nat → List Field → Option (List TypeDesc)
  | _, [] => some []
  | i, f :: fs => match P.underlying f.type with
    | some (.int k) => if f.name ≠ "_" ∧ f.offset = i then (flatF P (i + 1) fs).map (.int k :: ·) else none
    | some .bool => if f.name ≠ "_" ∧ f.offset = i then (flatF P (i + 1) fs).map (.bool :: ·) else none
    | _ => none
theorem run_part_1 {t : TypeId} {d : TypeDesc} (hu : P.underlying t = some d) (hd : (match d with | .struct _ | .array _ _ => true | _ => false) = false) {xs : Array Value} {off : Nat} {v : Value} (hx : xs[off]? = some v) (w : World) : (part t xs off).run P w = .ok v w := by
  cases d <;> simp at hd <;> simp [part, isAgg, run_underlying hu, hx]
theorem agg_at {cs : List AV} {vs : Array Value} (hv : vs.size = cs.length) (hC : ∀ (j : Nat) (x : AV) (v : Value), cs[j]? = some x → vs[j]? = some v → C X s0 H x v) {i : Nat} {u : Value} {rest : List AV} (e : cs.drop i = .lit u :: rest) : vs[i]? = some u ∧ cs.drop (i + 1) = rest := by
  have hi : i < cs.length := by
    by_cases hi : i < cs.length
    · exact hi
    · rw [List.drop_of_length_le (by omega)] at e; cases e
  rw [List.drop_eq_getElem_cons hi] at e
  injection e with e1 e2
  have hvi : vs[i]? = some vs[i] := Array.getElem?_eq_getElem (by omega)
  have := hC i (.lit u) _ (by rw [List.getElem?_eq_getElem hi, e1]) hvi
  rw [this.lit'] at hvi
  exact ⟨hvi, e2⟩
theorem eqFields_flat {cs es : List AV} {us vs : Array Value} (hu : us.size = cs.length) (hC : ∀ (j : Nat) (x : AV) (v : Value), cs[j]? = some x → us[j]? = some v → C X s0 H x v) (hv : vs.size = es.length) (hD : ∀ (j : Nat) (x : AV) (v : Value), es[j]? = some x → vs[j]? = some v → C X s0 H x v) (d : Nat) (w : World) :
    ∀ (fs : List Field) (i : Nat) (ds : List TypeDesc) (b : Bool), flatF P i fs = some ds → eqA ds (cs.drop i) (es.drop i) = some b → (Op.eqFields (d + 1) us vs fs).run P w = .ok b w
  | [], i, ds, b, h, e => by
    simp only [flatF, Option.some.injEq] at h; subst h
    simp only [eqA, Option.some.injEq] at e; subst e
    simp [Op.eqFields]
  | f :: fs, i, ds, b, h, e => by
    simp only [flatF] at h
    split at h
    · rename_i k hk
      split at h
      · rename_i hn
        cases h' : flatF P (i + 1) fs with
        | none => rw [h'] at h; cases h
        | some ds' =>
          rw [h'] at h; simp only [Option.map_some, Option.some.injEq] at h; subst h
          cases e1 : cs.drop i with
          | nil => rw [e1] at e; simp [eqA] at e
          | cons x xs =>
            cases e2 : es.drop i with
            | nil => rw [e1, e2] at e; simp [eqA] at e
            | cons y ys =>
              rw [e1, e2] at e
              unfold eqA at e
              split at e
              case h_2 => 
                rename_i k1 a xs' k2 b' ys' ez ex ey
                injection ez with ez1 ez2; injection ex with ex1 ex2; injection ey with ey1 ey2
                subst ex1; subst ex2; subst ey1; subst ey2; subst ez2
                obtain ⟨p1, p2⟩ := agg_at hu hC e1
                obtain ⟨q1, q2⟩ := agg_at hv hD e2
                split at e
                · rename_i hkk; subst hkk
                  have r1 := run_part_1 hk rfl p1 w
                  have r2 := run_part_1 hk rfl q1 w
                  have r3 := run_equalIn_int (P := P) w d f.type k1 k a b' hk
                  simp only [Op.eqFields, hn.1, ne_eq, not_false_eq_true, if_true, hn.2, Sem.run_bind, r1, r2, r3, Result.andThen_ok]
                  split at e
                  · rename_i hab; subst hab
                    simp only [beq_self_eq_true, Bool.not_true, Bool.false_eq_true, if_false]
                    exact eqFields_flat hu hC hv hD d w fs (i + 1) ds' b h' (by rw [p2, q2]; exact e)
                  · rename_i hab
                    injection e with e; subst e
                    simp [hab]
                · cases e
              all_goals first | (cases e; done) | (rename_i ez _ _; cases ez; done) | (rename_i ez; cases ez; done) | skip
              all_goals simp_all
      · cases h
    · rename_i hk
      split at h
      · rename_i hn
        cases h' : flatF P (i + 1) fs with
        | none => rw [h'] at h; cases h
        | some ds' =>
          rw [h'] at h; simp only [Option.map_some, Option.some.injEq] at h; subst h
          cases e1 : cs.drop i with
          | nil => rw [e1] at e; simp [eqA] at e
          | cons x xs =>
            cases e2 : es.drop i with
            | nil => rw [e1, e2] at e; simp [eqA] at e
            | cons y ys =>
              rw [e1, e2] at e
              unfold eqA at e
              split at e
              case h_3 => 
                rename_i a xs' b' ys' ez ex ey
                injection ez with ez1 ez2; injection ex with ex1 ex2; injection ey with ey1 ey2
                subst ex1; subst ex2; subst ey1; subst ey2; subst ez2
                obtain ⟨p1, p2⟩ := agg_at hu hC e1
                obtain ⟨q1, q2⟩ := agg_at hv hD e2
                have r1 := run_part_1 hk rfl p1 w
                have r2 := run_part_1 hk rfl q1 w
                have r3 := run_equalIn_bool' (P := P) w d f.type a b' hk
                simp only [Op.eqFields, hn.1, ne_eq, not_false_eq_true, if_true, hn.2, Sem.run_bind, r1, r2, r3, Result.andThen_ok]
                split at e
                · rename_i hab; subst hab
                  simp only [beq_self_eq_true, Bool.not_true, Bool.false_eq_true, if_false]
                  exact eqFields_flat hu hC hv hD d w fs (i + 1) ds' b h' (by rw [p2, q2]; exact e)
                · rename_i hab
                  injection e with e; subst e
                  simp [hab]
              all_goals first | (cases e; done) | (rename_i ez _ _; cases ez; done) | (rename_i ez; cases ez; done) | skip
              all_goals simp_all
      · cases h
    · cases h
theorem snd_aeq (h : Sim s0 S w0 D X H st a w) {neg : Bool} {t : TypeId} {fs : Array Field} {ds : List TypeDesc} {x y : Operand} {x' y' : Opd} (ht : P.underlying t = some (.struct fs)) (hp : P.stoodInHeld t = false) (hg : P.eqGuardType P.depth t = false) (hfs : flatF P 0 fs.toList = some ds)
    (hx : opd x = some x') (hy : opd y = some y') {i : Nat} {r : AV} {M' : List (Option Blk)} (hs : astep i st (.aeq neg ds x' y') = some (r, M')) :
    Does P s0 S w0 D X H i st a w (do pure (Next.value (← (do eqGuard (if neg then .neq else .eql) t x y (a.eval x) (a.eval y); binOp (if neg then .neq else .eql) t (a.eval x) (a.eval y))))) r M' := by
  simp only [astep] at hs
  have h1 := h.ev hx
  have h2 := h.ev hy
  split at hs
  · rename_i xs ys e1 e2
    rw [e1] at h1; rw [e2] at h2
    cases hb : eqA ds xs ys with
    | none => rw [hb] at hs; cases hs
    | some b =>
      rw [hb] at hs; injection hs with hs; injection hs with e3 e4; subst e3; subst e4
      refine .still h ?_ (.lit _)
      generalize a.eval x = u at h1 ⊢
      generalize a.eval y = v at h2 ⊢
      cases h1 with
      | agg c1 c2 =>
        cases h2 with
        | agg d1 d2 =>
          rename_i us vs
          have hfl : P.fieldsOf t = fs := by simp [Program.fieldsOf, ht]
          have hq : (Op.equalIn 10000 t (.agg us) (.agg vs)).run P w = .ok b w := by
            have := run_equalIn_agg (P := P) w 9999 t us vs (by rw [hfl]; exact ht) hp
            rw [hfl] at this
            rw [show (10000 : Nat) = 9999 + 1 from rfl, this]
            exact eqFields_flat c1 c2 d1 d2 9998 w fs.toList 0 ds b hfs (by simpa using hb)
          cases neg
          · simp only [Bool.false_eq_true, if_false, Sem.run_bind, run_eqGuard_agg (P := P) w _ t x y us vs hg, Result.andThen_ok, run_eql_struct, hq, Sem.run_pure]
          · simp only [if_true, Sem.run_bind, run_eqGuard_agg (P := P) w _ t x y us vs hg, Result.andThen_ok, run_neq_struct, hq, Sem.run_pure]
  · cases hs

theorem snd_un (h : Sim s0 S w0 D X H st a w) {u : UnOp} {x : Operand} {x' : Opd} (hx : opd x = some x') {i : Nat} {r : AV} {M' : List (Option Blk)} (hs : astep i st (.un u x') = some (r, M')) :
    Does P s0 S w0 D X H i st a w (do pure (Next.value (← Op.unary u (a.eval x)))) r M' := by
  simp only [astep] at hs
  have h1 := h.ev hx
  split at hs
  · rename_i v e
    rw [e] at h1
    cases hr : semVal (Op.unary u v) with
    | none => rw [hr] at hs; cases hs
    | some z =>
      rw [hr] at hs; injection hs with hs; injection hs with e3 e4; subst e3; subst e4
      exact .still h (by rw [h1.lit']; exact run_v (semVal_run hr P w)) (.lit _)
  · cases hs

theorem snd_conv (h : Sim s0 S w0 D X H st a w) {s d : TypeId} {k : IntKind} {x : Operand} {x' : Opd} (hs' : (P.underlying s).isSome = true) (hd : P.underlying d = some (.int k)) (hx : opd x = some x') {i : Nat} {r : AV} {M' : List (Option Blk)}
    (hs : astep i st (.conv k x') = some (r, M')) : Does P s0 S w0 D X H i st a w (do pure (Next.value (← convert s d (a.eval x)))) r M' := by
  simp only [astep] at hs
  have h1 := h.ev hx
  split at hs
  · rename_i k' n e
    rw [e] at h1
    injection hs with hs; injection hs with e3 e4; subst e3; subst e4
    refine .still h (run_v ?_) (.lit _)
    rw [h1.lit']
    obtain ⟨u, hu⟩ := Option.isSome_iff_exists.1 hs'
    simp [convert, run_underlying hu, run_underlying hd, Conv.intToInt]
  · cases hs

-- what a live block says
theorem St.blk_some {st : St} {id : Nat} {g : Gen} {B : Blk} (h : st.blk id g = some B) : st.M[id]? = some (some B) ∧ B.g = g := by
  unfold St.blk at h
  split at h
  · rename_i B' e
    split at h
    · rename_i hg; injection h with h; subst h; exact ⟨e, hg⟩
    · cases h
  · cases h

theorem Sim.rowAt (h : Sim s0 S w0 D X H st a w) {id : Nat} {g g' : Gen} {e : TypeId} {k n : Nat} {cs : List AV} (hb : st.blk id g = some (.row g' e k n cs)) :
    g' = g ∧ st.M[id]? = some (some (.row g e k n cs)) ∧ ∃ v xs, H id g = some v ∧ w.ownsRow 0 e k v n xs ∧ Cs X s0 H cs xs ∧ 0 < k := by
  obtain ⟨h1, h2⟩ := St.blk_some hb
  simp only [Blk.g] at h2; subst h2
  obtain ⟨v, xs, a1, a2, a3, a4, _⟩ := h.blks id _ h1
  exact ⟨rfl, h1, v, xs, a1, a2, a3, a4⟩

/-- A row's head. -/
theorem ownsRow_head {w : World} {base : Nat} {e : TypeId} {k : Nat} {v : Value} {n : Nat} {xs : List Value} (h : w.ownsRow base e k v n xs) : (v = .slice none 0 0 ∧ n = 0) ∨ ∃ b cap, v = .slice (some ⟨b, 0, none⟩) n cap ∧ n ≤ cap := by
  rcases h.2 with ⟨rfl, rfl⟩ | ⟨g, cap, cur, rfl, _, _, h3, _⟩
  · exact .inl ⟨rfl, rfl⟩
  · exact .inr ⟨g, cap, rfl, h3⟩

theorem snd_lens (h : Sim s0 S w0 D X H st a w) {t ty : TypeId} {x : Operand} {x' : Opd} (ht : P.underlying t = some .string) (hx : opd x = some x') {i : Nat} {r : AV} {M' : List (Option Blk)}
    (hs : astep i st (.lens x') = some (r, M')) : Does P s0 S w0 D X H i st a w (do pure (Next.value (← Builtin.len_ #[t] ty #[a.eval x]))) r M' := by
  simp only [astep] at hs
  have h1 := h.ev hx
  generalize a.eval x = vx at h1 ⊢
  split at hs
  · rename_i s e
    rw [e] at h1
    injection hs with hs; injection hs with e3 e4; subst e3; subst e4
    refine .still h (run_v ?_) (.lit _)
    rw [h1.lit']
    simp [Builtin.len_, run_underlying ht, goInt]
  · cases hs

theorem snd_nck (h : Sim s0 S w0 D X H st a w) {x : Operand} {x' : Opd} {o : Oper} (ho : o.op = .nilCheck x) (hx : opd x = some x') {i : Nat} {r : AV} {M' : List (Option Blk)}
    (hs : astep i st (.nck x') = some (r, M')) : Does P s0 S w0 D X H i st a w (execOp a.eval o) r M' := by
  simp only [astep] at hs
  have h1 := h.ev hx
  have he : ∀ b off, a.eval x = .pointer (some ⟨b, off, none⟩) → (execOp a.eval o).run P w = .ok (.value (a.eval x)) w := by
    intro b off e
    simp only [execOp, ho, e]
    rfl
  split at hs
  · rename_i id g off e
    injection hs with hs; injection hs with e3 e4; subst e3; subst e4
    rw [e] at h1
    generalize hv : a.eval x = vx at h1
    cases h1 with
    | ptr b1 b2 => exact .still h (by rw [← hv]; exact he _ _ hv) (.ptr b1 b2)
  · rename_i cs e
    injection hs with hs; injection hs with e3 e4; subst e3; subst e4
    rw [e] at h1
    generalize hv : a.eval x = vx at h1
    cases h1 with
    | fptr hv' hx' hC => exact .still h (by rw [← hv]; exact he _ _ hv) (.fptr hv' hx' hC)
  · cases hs

theorem snd_len (h : Sim s0 S w0 D X H st a w) {t ty el : TypeId} {x : Operand} {x' : Opd} (hel : P.underlying t = some (.slice el)) (hx : opd x = some x') {i : Nat} {r : AV} {M' : List (Option Blk)}
    (hs : astep i st (.len x') = some (r, M')) : Does P s0 S w0 D X H i st a w (do pure (Next.value (← Builtin.len_ #[t] ty #[a.eval x]))) r M' := by
  simp only [astep] at hs
  have h1 := h.ev hx
  generalize a.eval x = vx at h1 ⊢
  split at hs
  · rename_i id g e
    rw [e] at h1
    split at hs
    · rename_i hb
      injection hs with hs; injection hs with e3 e4; subst e3; subst e4
      refine .still h (run_v ?_) (.lit _)
      obtain ⟨_, _, v, xs, a1, a2, _, _⟩ := h.rowAt hb
      cases h1 with
      | own a3 a4 =>
        rw [a1] at a3; injection a3 with a3; subst a3
        rcases ownsRow_head a2 with ⟨rfl, rfl⟩ | ⟨b, cap, rfl, _⟩ <;> simp [Builtin.len_, run_underlying hel, goInt]
    · cases hs
  · rename_i id g k off len e
    rw [e] at h1
    injection hs with hs; injection hs with e3 e4; subst e3; subst e4
    refine .still h (run_v ?_) (.lit _)
    cases h1
    simp [Builtin.len_, run_underlying hel, goInt]
  · rename_i lab k n cs e
    rw [e] at h1
    injection hs with hs; injection hs with e3 e4; subst e3; subst e4
    refine .still h (run_v ?_) (.lit _)
    cases h1 <;> simp [Builtin.len_, run_underlying hel, goInt]
  · rename_i e
    rw [e] at h1
    injection hs with hs; injection hs with e3 e4; subst e3; subst e4
    refine .still h (run_v ?_) (.lit _)
    rw [h1.lit']
    simp [Builtin.len_, run_underlying hel, goInt]
  · cases hs

theorem add_at0 (b n : Nat) : (⟨b, 0, none⟩ : Addr).add n = ⟨b, n, none⟩ := by unfold Addr.add; split <;> simp_all
theorem add_at (b o n : Nat) : (⟨b, o, none⟩ : Addr).add n = ⟨b, o + n, none⟩ := by unfold Addr.add; split <;> simp_all

theorem snd_idxA (h : Sim s0 S w0 D X H st a w) {t e : TypeId} {k : Nat} {x j : Operand} {x' j' : Opd} (ht : P.underlying t = some (.slice e)) (hk : ∃ i, P.info? e = some i ∧ i.size = k) (hx : opd x = some x') (hj : opd j = some j') {i : Nat} {r : AV}
    {M' : List (Option Blk)} (hs : astep i st (.idxA k x' j') = some (r, M')) : Does P s0 S w0 D X H i st a w (do pure (Next.value (← Instr.indexAt t (a.eval x) (a.eval j)))) r M' := by
  simp only [astep] at hs
  have h1 := h.ev hx
  have h2 := h.ev hj
  generalize a.eval x = vx at h1 ⊢
  generalize a.eval j = vj at h2 ⊢
  obtain ⟨inf, hinf, rfl⟩ := hk
  split at hs
  · rename_i n hn
    obtain ⟨kk, hv, _⟩ := h2.intOf hn
    rw [hv]
    split at hs
    · rename_i id g e1
      rw [e1] at h1
      split at hs
      · rename_i hb
        split at hs
        · rename_i hc
          obtain ⟨_, c1, c2⟩ := hc
          injection hs with hs; injection hs with e3 e4; subst e3; subst e4
          obtain ⟨_, _, v, xs, a1, a2, _, _⟩ := h.rowAt hb
          cases h1 with
          | own a3 a4 =>
            rw [a1] at a3; injection a3 with a3
            rw [← a3]
            rcases ownsRow_head a2 with ⟨rfl, hz⟩ | ⟨b, cap, rfl, _⟩
            · omega
            · refine .still h (run_v (v := .pointer (some ⟨b, n.toNat * inf.size, none⟩)) ?_) (.ptr a1 rfl)
              simp [Instr.indexAt, run_underlying ht, asIntOf, sizeOf, typeInfo, hinf, c1, c2, add_at0]
        · cases hs
      · cases hs
    · rename_i id g k' off len e1
      rw [e1] at h1
      split at hs
      · rename_i hc
        obtain ⟨rfl, c1, c2⟩ := hc
        injection hs with hs; injection hs with e3 e4; subst e3; subst e4
        cases h1 with
        | sub a1 b0 b1 b2 =>
          rename_i b nn cap
          refine .still h (run_v (v := .pointer (some ⟨b, (off + n.toNat) * inf.size, none⟩)) ?_) (.ptr a1 rfl)
          simp [Instr.indexAt, run_underlying ht, asIntOf, sizeOf, typeInfo, hinf, c1, c2, add_at, Nat.add_mul]
      · cases hs
    · rename_i lab k' m cs e1
      rw [e1] at h1
      split at hs
      · rename_i hc
        obtain ⟨rfl, c1, c2⟩ := hc
        injection hs with hs; injection hs with e3 e4; subst e3; subst e4
        cases h1 with
        | frz0 => omega
        | frz hl h0 hn' hc hv' hx' hC =>
          rename_i b o c vs
          refine .still h (run_v (v := .pointer (some ⟨b, o + n.toNat * inf.size, none⟩)) ?_) (.fptr (vs := (vs.drop (n.toNat * inf.size)).take inf.size) ?_ ?_ ?_)
          · simp [Instr.indexAt, run_underlying ht, asIntOf, sizeOf, typeInfo, hinf, c1, c2, add_at]
          · simp [hv']
          · intro j v hj
            rw [List.getElem?_take] at hj
            split at hj
            · rw [List.getElem?_drop] at hj
              rw [Nat.add_assoc]; exact hx' _ v hj
            · cases hj
          · exact ((Cs.mk hv' hC).drop _ |>.take _).at_
      · cases hs
    · cases hs
  · cases hs
end
end Go.Proofs.YtbpajecjaoefaaaGreat.V

/- The abstract machine: each operation is what the model does (2): places, reads, writes, parts. -/
namespace Go.Proofs.YtbpajecjaoefaaaGreat.V
open Go Go.RowKit

section
variable {P : Program} {s0 : Nat} {S : Nat → Nat → Prop} {w0 : Base} {D : Nat → Prop} {X : Claims} {H : Heads} {st : St} {a : Act} {w : World}

theorem snd_nilr (h : Sim s0 S w0 D X H st a w) {id k : Nat} {e : TypeId} {i : Nat} (hi : ¬ D i) {r : AV} {M' : List (Option Blk)} (hs : astep i st (.nilr id e k) = some (r, M')) :
    Does P s0 S w0 D X H i st a w (pure (.value (.slice none 0 0))) r M' := by
  simp only [astep] at hs
  split at hs
  · rename_i hc
    injection hs with hs; injection hs with e3 e4; subst e3; subst e4
    have hle := Heads.upd_le (v := .slice none 0 0) (h.gens id st.g i (.inr ⟨rfl, hi⟩))
    refine ⟨.slice none 0 0, w, H.upd id (st.g, i) (.slice none 0 0), .inl rfl, hle, ?_, .own (Heads.upd_same ..) rfl⟩
    refine h.fresh hi hc.1 (row := none) h.inv ⟨rfl, rfl, rfl, Nat.le_refl _, fun _ _ _ => rfl⟩ (by simp) rfl (by simp [hblk]) ?_
    exact ⟨_, [], Heads.upd_same .., World.ownsRow_nil w 0 e k, Cs.nil, hc.2, by simp [hblk]⟩
  · cases hs

/-- A place, laid open: the cells from there on, as they lie. -/
theorem Sim.place (h : Sim s0 S w0 D X H st a w) {x : AV} {v : Value} {cs : List AV} (hx : C X s0 H x v) (hc : st.cells x = some cs) :
    ∃ b o vs, v = .pointer (some ⟨b, o, none⟩) ∧ Cs X s0 H cs vs ∧ ∀ (j : Nat) (u : Value), vs[j]? = some u → w.cell? ⟨b, o + j, none⟩ = some u := by
  unfold St.cells at hc
  split at hc
  · rename_i id g off
    split at hc
    · rename_i g' e k n cs' hb
      injection hc with hc; subst hc
      obtain ⟨_, _, v0, xs, a1, a2, a3, _⟩ := h.rowAt hb
      cases hx with
      | ptr b1 b2 =>
        rw [a1] at b1; injection b1 with b1; subst b1
        rcases ownsRow_head a2 with ⟨rfl, _⟩ | ⟨b, cap, rfl, _⟩
        · simp [hblk] at b2
        · simp only [hblk, Option.some.injEq] at b2; subst b2
          refine ⟨b, off, xs.drop off, rfl, a3.drop off, fun j u hj => ?_⟩
          rw [List.getElem?_drop] at hj
          have hlt : off + j < n * k := by
            have := (List.getElem?_eq_some_iff.1 hj).1
            have := a2.1; omega
          rw [a2.cellAt (off + j) hlt]; exact hj
    · rename_i g' t cs' hb
      injection hc with hc; subst hc
      obtain ⟨h1, h2⟩ := St.blk_some hb
      simp only [Blk.g] at h2; subst h2
      obtain ⟨b, vals, a1, a2, a3, _⟩ := h.blks id _ h1
      cases hx with
      | ptr b1 b2 =>
        rw [a1] at b1; injection b1 with b1; subst b1
        simp only [hblk, Option.some.injEq] at b2; subst b2
        refine ⟨b, off, vals.toList.drop off, rfl, a3.drop off, fun j u hj => ?_⟩
        rw [List.getElem?_drop, Array.getElem?_toList] at hj
        rw [cell_of_row w b (off + j) vals t (0, 0) a2]; exact hj
    · cases hc
  · rename_i cs'
    injection hc with hc; subst hc
    cases hx with
    | fptr hv hx hC => exact ⟨_, _, _, rfl, ⟨hv, hC⟩, fun j u hj => h.claims _ _ _ (hx j u hj)⟩
  · cases hc

theorem snd_fldA (h : Sim s0 S w0 D X H st a w) {t : TypeId} {f : Nat} {fs : Array Field} {fd : Field} {x : Operand} {x' : Opd} {n : Nat} (ht : P.underlying t = some (.struct fs)) (hf : fs[f]? = some fd)
    (hn : ∃ inf, P.info? fd.type = some inf ∧ inf.size = n) (h0 : 0 < n) (hx : opd x = some x') {i : Nat} {r : AV} {M' : List (Option Blk)} (hs : astep i st (.fldA fd.offset n x') = some (r, M')) :
    Does P s0 S w0 D X H i st a w (do pure (Next.value (← Instr.fieldAt t (a.eval x) f))) r M' := by
  simp only [astep] at hs
  have h1 := h.ev hx
  generalize a.eval x = vx at h1 ⊢
  obtain ⟨inf, hinf, rfl⟩ := hn
  have key : ∀ b o, vx = .pointer (some ⟨b, o, none⟩) → (Instr.fieldAt t vx f).run P w = .ok (.pointer (some ⟨b, o + fd.offset, none⟩)) w := by
    rintro b o rfl
    have : ¬ inf.size = 0 := by omega
    simp [Instr.fieldAt, run_underlying ht, hf, Instr.sureAddr, fieldPlace, sizeOf, typeInfo, hinf, this, add_at]
  split at hs
  · rename_i id g o e
    rw [e] at h1
    injection hs with hs; injection hs with e3 e4; subst e3; subst e4
    cases h1 with
    | ptr b1 b2 => exact .still h (run_v (key _ _ rfl)) (.ptr b1 b2)
  · rename_i cs e
    rw [e] at h1
    split at hs
    · rename_i hl
      injection hs with hs; injection hs with e3 e4; subst e3; subst e4
      cases h1 with
      | fptr hv hx' hC =>
        rename_i vs b o
        refine .still h (run_v (key _ _ rfl)) (.fptr (vs := (vs.drop fd.offset).take inf.size) (by simp [hv]) ?_ (((Cs.mk hv hC).drop _).take _).at_)
        intro j v hj
        rw [List.getElem?_take] at hj
        split at hj
        · rw [List.getElem?_drop] at hj
          rw [Nat.add_assoc]; exact hx' _ v hj
        · cases hj
    · cases hs
  · cases hs

def aggB (d : TypeDesc) : Bool := match d with | .struct _ | .array _ _ => true | _ => false
theorem run_isAgg {t : TypeId} {d : TypeDesc} (ht : P.underlying t = some d) : (isAgg t).run P w = .ok (aggB d) w := by
  cases d <;> simp [isAgg, run_underlying ht, aggB]

theorem snd_load (h : Sim s0 S w0 D X H st a w) {t : TypeId} {d : TypeDesc} {n : Nat} {ag : Bool} {x : Operand} {x' : Opd} (ht : P.underlying t = some d) (hag : aggB d = ag) (hn : ∃ inf, P.info? t = some inf ∧ inf.size = n) (hx : opd x = some x') {i : Nat} {r : AV}
    {M' : List (Option Blk)} (hs : astep i st (.load n ag x') = some (r, M')) :
    Does P s0 S w0 D X H i st a w (do pure (Next.value (← Instr.loadAt t (a.eval x)))) r M' := by
  simp only [astep] at hs
  have h1 := h.ev hx
  generalize a.eval x = vx at h1 ⊢
  obtain ⟨inf, hinf, rfl⟩ := hn
  split at hs
  · rename_i cs hc
    obtain ⟨b, o, vs, rfl, hcs, hcell⟩ := h.place h1 hc
    split at hs
    · rename_i hl
      have hla := run_isAgg (P := P) (w := w) ht
      rw [hag] at hla
      split at hs
      · rename_i hag1
        injection hs with hs; injection hs with e3 e4; subst e3; subst e4
        rw [hag1] at hla
        have hl2 := run_loadCells_list (P := P) w ⟨b, o, none⟩ (vs.take inf.size) (fun j u hj => by
          rw [List.getElem?_take] at hj
          split at hj
          · rw [add_at]; exact hcell j u hj
          · cases hj)
        rw [List.length_take, Nat.min_eq_left (by have := hcs.len; omega)] at hl2
        refine .still h (run_v (v := .agg (vs.take inf.size).toArray) ?_) (.agg (by simp [hcs.len]) ?_)
        · simp [Instr.loadAt, Instr.sureAddr, loadVar, hla, sizeOf, typeInfo, hinf, hl2]
        · intro j y u hy hu
          exact (hcs.take inf.size).at_ j y u hy (by simpa using hu)
      · rename_i hag1
        rw [show ag = false from by simpa using hag1] at hla
        split at hs
        · rename_i c rest hsz
          injection hs with hs; injection hs with e3 e4; subst e3; subst e4
          have hlen := hcs.len
          cases vs with
          | nil => simp at hlen
          | cons v0 vr =>
            have h0 := hcell 0 v0 rfl
            rw [Nat.add_zero] at h0
            exact .still h (run_v (v := v0) (by simp [Instr.loadAt, Instr.sureAddr, loadVar, hla, h0])) (hcs.at_ 0 c v0 rfl rfl)
        · cases hs
    · cases hs
  · cases hs

-- values as cells
theorem C.one {x : AV} {v : Value} (h : C X s0 H x v) (h1 : av1 x = true) : v.oneCell' = true := by
  cases h <;> simp_all [av1] <;> rfl
theorem Value.cells_one {v : Value} (h : v.oneCell' = true) : v.cells = #[v] := by cases v <;> simp_all [Value.cells, Value.oneCell']
theorem C.cells {x : AV} {v : Value} (h : C X s0 H x v) (h1 : avs x = true) : Cs X s0 H (avc x) v.cells.toList ∧ ∀ u ∈ v.cells.toList, u.oneCell' = true := by
  have key : ∀ x v, C X s0 H x v → av1 x = true → (∀ cs, x ≠ .agg cs) → Cs X s0 H (avc x) v.cells.toList ∧ ∀ u ∈ v.cells.toList, u.oneCell' = true := by
    intro x v h h1 hn
    have h2 := h.one h1
    have e : avc x = [x] := by cases x <;> first | rfl | exact absurd rfl (hn _)
    rw [e, Value.cells_one h2]
    refine ⟨Cs.cons h Cs.nil, fun u hu => ?_⟩
    simp at hu; subst hu; exact h2
  cases x with
  | agg cs =>
    cases h with
    | agg hv hC =>
      rename_i vs
      simp only [avs, List.all_eq_true] at h1
      refine ⟨⟨by simpa [avc, Value.cells] using hv, fun j y u hy hu => hC j y u hy (by simpa [Value.cells] using hu)⟩, fun u hu => ?_⟩
      simp only [Value.cells] at hu
      obtain ⟨j, hj, rfl⟩ := List.getElem_of_mem hu
      have hj' : j < cs.length := by rw [← hv]; simpa using hj
      exact (hC j cs[j] _ (List.getElem?_eq_getElem hj') (by rw [← Array.getElem?_toList]; exact List.getElem?_eq_getElem hj)).one (h1 _ (List.getElem_mem hj'))
  | lit v => exact key _ _ h h1 (by simp)
  | frz => exact key _ _ h h1 (by simp)
  | own => exact key _ _ h h1 (by simp)
  | sub => exact key _ _ h h1 (by simp)
  | ptr => exact key _ _ h h1 (by simp)
  | fptr => exact key _ _ h h1 (by simp)
  | mapr => exact key _ _ h h1 (by simp)
  | tup => simp [avs, av1] at h1
  | ifc => exact key _ _ h h1 (by simp)
  | clo => exact key _ _ h h1 (by simp)
  | junk => simp [avs, av1] at h1

def spliceV (cs : List Value) (off : Nat) : List Value → List Value
  | [] => cs
  | x :: xs => spliceV (cs.set off x) (off + 1) xs
theorem splice_length : ∀ (xs cs : List AV) (off : Nat), (splice cs off xs).length = cs.length
  | [], _, _ => rfl
  | x :: xs, cs, off => by simp [splice, splice_length xs]
theorem spliceV_length : ∀ (xs cs : List Value) (off : Nat), (spliceV cs off xs).length = cs.length
  | [], _, _ => rfl
  | x :: xs, cs, off => by simp [spliceV, spliceV_length xs]
theorem Cs.splice : ∀ {xs : List AV} {us : List Value} {cs : List AV} {vs : List Value} (off : Nat), Cs X s0 H cs vs → Cs X s0 H xs us → Cs X s0 H (splice cs off xs) (spliceV vs off us)
  | [], us, cs, vs, off, h, t => by
    have : us = [] := List.eq_nil_of_length_eq_zero (by simpa using t.len)
    subst this; exact h
  | x :: xs, [], cs, vs, off, h, t => by have := t.len; simp at this
  | x :: xs, u :: us, cs, vs, off, h, t =>
    Cs.splice (off + 1) (h.set (t.at_ 0 x u rfl rfl) off) ⟨by have := t.len; simp at this; exact this, fun j y v a b => t.at_ (j + 1) y v (by simpa using a) (by simpa using b)⟩

/-- Cells stored one by one into a row of the call's own. -/
theorem run_storeCells_own {id : Nat} {b : Nat} {e : TypeId} {k n cap : Nat} : ∀ (us xs : List Value) (off m : Nat) (w : World), w.ownsRow 0 e k (.slice (some ⟨b, 0, none⟩) n cap) n xs → off + m + us.length ≤ xs.length → (∀ u ∈ us, u.oneCell' = true) →
    ∃ w', (storeCells ⟨b, off, none⟩ us m).run P w = .ok () w' ∧ w'.ownsRow 0 e k (.slice (some ⟨b, 0, none⟩) n cap) n (spliceV xs (off + m) us) ∧ w.grownBy w' (some b)
  | [], xs, off, m, w, h, _, _ => ⟨w, by simp [storeCells], h, rfl, rfl, rfl, Nat.le_refl _, fun _ _ _ => rfl⟩
  | u :: us, xs, off, m, w, h, hl, h1 => by
    simp only [List.length_cons] at hl
    have hlt : off + m < n * k := by have := h.1; omega
    obtain ⟨v, hv⟩ : ∃ v, xs[off + m]? = some v := ⟨_, List.getElem?_eq_getElem (show off + m < xs.length by omega)⟩
    have hcell : w.cell? ⟨b, off + m, none⟩ = some v := by rw [h.cellAt _ hlt]; exact hv
    obtain ⟨s1, s2⟩ := h.stored (off + m) u
    obtain ⟨w', r1, r2, r3⟩ := run_storeCells_own (id := id) us (xs.set (off + m) u) off (m + 1) (w.setCell ⟨b, off + m, none⟩ u) s1 (by simp; omega) (fun x hx => h1 x (List.mem_cons_of_mem _ hx))
    refine ⟨w', ?_, r2, ⟨r3.os.trans s2.os, r3.tape.trans s2.tape, r3.output.trans s2.output, Nat.le_trans s2.size r3.size, fun j hj hn => (r3.block j (Nat.lt_of_lt_of_le hj s2.size) hn).trans (s2.block j hj hn)⟩⟩
    have hst := run_store P w ⟨b, off + m, none⟩ u .plain (h1 u (List.mem_cons_self ..))
    rw [hcell] at hst
    simp only [h.frozenAt (off + m)] at hst
    simp only [storeCells, Sem.run_bind, add_at, hst]
    simpa using r1

/-- Cells stored one by one into a block of cells. -/
theorem run_storeCells_blk {b : Nat} {t : TypeId} : ∀ (us : List Value) (vals : Array Value) (off m : Nat) (w : World), w.heap[b]? = some (.cells vals t (0, 0)) → off + m + us.length ≤ vals.size → (∀ u ∈ us, u.oneCell' = true) →
    ∃ w', (storeCells ⟨b, off, none⟩ us m).run P w = .ok () w' ∧ w'.heap[b]? = some (.cells (spliceV vals.toList (off + m) us).toArray t (0, 0)) ∧ w.grownBy w' (some b)
  | [], vals, off, m, w, h, _, _ => ⟨w, by simp [storeCells], by simpa [spliceV] using h, rfl, rfl, rfl, Nat.le_refl _, fun _ _ _ => rfl⟩
  | u :: us, vals, off, m, w, h, hl, h1 => by
    simp only [List.length_cons] at hl
    have hlt : off + m < vals.size := by omega
    have hcell : w.cell? ⟨b, off + m, none⟩ = some vals[off + m] := by rw [cell_of_row w b (off + m) vals t (0, 0) h]; exact Array.getElem?_eq_getElem hlt
    have s1 := heap_setCell_same w b (off + m) vals t u h
    have s2 : w.grownBy (w.setCell ⟨b, off + m, none⟩ u) (some b) := ⟨rfl, rfl, rfl, by simp, fun k _ hk => heap_setCell_other w ⟨b, off + m, none⟩ k u (fun e => hk (by simp [e]))⟩
    obtain ⟨w', r1, r2, r3⟩ := run_storeCells_blk us (vals.setIfInBounds (off + m) u) off (m + 1) (w.setCell ⟨b, off + m, none⟩ u) s1 (by simp; omega) (fun x hx => h1 x (List.mem_cons_of_mem _ hx))
    refine ⟨w', ?_, by rw [Array.toList_setIfInBounds] at r2; exact r2, ⟨r3.os.trans s2.os, r3.tape.trans s2.tape, r3.output.trans s2.output, Nat.le_trans s2.size r3.size, fun j hj hn => (r3.block j (Nat.lt_of_lt_of_le hj s2.size) hn).trans (s2.block j hj hn)⟩⟩
    have hst := run_store P w ⟨b, off + m, none⟩ u .plain (h1 u (List.mem_cons_self ..))
    rw [hcell] at hst
    simp only [frozen_of_row w b (off + m) vals t h] at hst
    simp only [storeCells, Sem.run_bind, add_at, hst]
    simpa using r1

theorem snd_store (h : Sim s0 S w0 D X H st a w) (hq : w0.q = false) {t : TypeId} {n : Nat} {x y : Operand} {x' y' : Opd} (hn : ∃ inf, P.info? t = some inf ∧ inf.size = n) (hx : opd x = some x') (hy : opd y = some y') {i : Nat} {r : AV}
    {M' : List (Option Blk)} (hs : astep i st (.store n x' y') = some (r, M')) : Does P s0 S w0 D X H i st a w (do Instr.storeAt t (a.eval x) (a.eval y); pure Next.skip) r M' := by
  simp only [astep] at hs
  have h1 := h.ev hx
  have h2 := h.ev hy
  generalize a.eval x = vx at h1 ⊢
  generalize a.eval y = vy at h2 ⊢
  obtain ⟨inf, hinf, rfl⟩ := hn
  split at hs
  · rename_i id g off e
    rw [e] at h1
    split at hs
    · rename_i hc
      obtain ⟨c1, c2⟩ := hc
      obtain ⟨d1, d2⟩ := h2.cells c2
      have hsize : vy.cells.size = inf.size := by rw [← c1, ← d1.len]; simp
      have hst : ∀ b w', (storeCells ⟨b, off, none⟩ vy.cells.toList 0).run P w = .ok () w' → (Instr.storeAt t (.pointer (some ⟨b, off, none⟩)) vy).run P w = .ok () w' := by
        intro b w' hr
        simp [Instr.storeAt, Instr.sureAddr, storeVar, sizeOf, typeInfo, hinf, hsize, hr]
      split at hs
      · rename_i g' ee k m cs hb
        split at hs
        · rename_i hl
          injection hs with hs; injection hs with e3 e4; subst e3; subst e4
          obtain ⟨rfl, hM, v0, xs, a1, a2, a3, a4⟩ := h.rowAt hb
          obtain ⟨v1, xs1, q1, q2, q3, q4, q5⟩ := h.blks id _ hM
          cases h1 with
          | ptr b1 b2 =>
            rw [a1] at b1; injection b1 with b1; subst b1
            rw [a1] at q1; injection q1 with q1; subst q1
            rcases ownsRow_head a2 with ⟨rfl, _⟩ | ⟨b, cap, rfl, _⟩
            · simp [hblk] at b2
            · simp only [hblk, Option.some.injEq] at b2; subst b2
              obtain ⟨w', r1, r2, r3⟩ := run_storeCells_own (P := P) (id := id) vy.cells.toList xs off 0 w a2 (by have := a3.len; rw [d1.len, c1]; omega) d2
              refine ⟨undef, w', H, .inr ⟨run_u (hst _ _ r1), rfl⟩, Heads.le.refl H, ?_, .junk _⟩
              have hs' := h.same (B' := .row g' ee k m (splice cs off (avc (st.ev y')))) hM a1 (q_false hq) (by simpa [hblk] using r3) rfl
                ⟨_, _, a1, by simpa using r2, by simpa using a3.splice off d1, a4, q5⟩
              exact hs'.done fun _ => .inl
        · cases hs
      · rename_i g' tt cs hb
        split at hs
        · rename_i hl
          injection hs with hs; injection hs with e3 e4; subst e3; subst e4
          obtain ⟨hM, hg⟩ := St.blk_some hb
          simp only [Blk.g] at hg; subst hg
          obtain ⟨b, vals, a1, a2, a3, a4, a5⟩ := h.blks id _ hM
          cases h1 with
          | ptr b1 b2 =>
            rw [a1] at b1; injection b1 with b1; subst b1
            simp only [hblk, Option.some.injEq] at b2; subst b2
            obtain ⟨w', r1, r2, r3⟩ := run_storeCells_blk (P := P) vy.cells.toList vals off 0 w a2 (by have := a3.len; rw [d1.len, c1]; simp at this; omega) d2
            refine ⟨undef, w', H, .inr ⟨run_u (hst _ _ r1), rfl⟩, Heads.le.refl H, ?_, .junk _⟩
            have hs' := h.same (B' := .box g' tt (splice cs off (avc (st.ev y')))) hM a1 (q_false hq) (by simpa [hblk] using r3) rfl
              ⟨b, _, a1, r2, by simpa using a3.splice off d1, a4, a5⟩
            exact hs'.done fun _ => .inl
        · cases hs
      · cases hs
    · cases hs
  · cases hs
end
end Go.Proofs.YtbpajecjaoefaaaGreat.V

/- The abstract machine: each operation is what the model does (3): strings, cuts, what is made. -/
namespace Go.Proofs.YtbpajecjaoefaaaGreat.V
open Go Go.RowKit

section
variable {P : Program} {s0 : Nat} {S : Nat → Nat → Prop} {w0 : Base} {D : Nat → Prop} {X : Claims} {H : Heads} {st : St} {a : Act} {w : World}

theorem bt_at (s : ByteArray) (n : Int) (h : n.toNat < s.size) : ((s[n.toNat]'h).toNat : Int) = bt s n := by
  unfold bt
  have h' : n.toNat < s.data.size := h
  simp only [Array.getD, dif_pos h']
  rfl

theorem snd_idxS (h : Sim s0 S w0 D X H st a w) {t : TypeId} {x j : Operand} {x' j' : Opd} (ht : P.underlying t = some .string) (hx : opd x = some x') (hj : opd j = some j') {i : Nat} {r : AV} {M' : List (Option Blk)}
    (hs : astep i st (.idxS x' j') = some (r, M')) : Does P s0 S w0 D X H i st a w (do pure (Next.value (← Instr.index t (a.eval x) (a.eval j)))) r M' := by
  simp only [astep] at hs
  have h1 := h.ev hx
  have h2 := h.ev hj
  generalize a.eval x = vx at h1 ⊢
  generalize a.eval j = vj at h2 ⊢
  split at hs
  · rename_i s n e1 e2
    obtain ⟨kk, rfl, _⟩ := h2.intOf e2
    obtain rfl := h1.strOf e1
    split at hs
    · rename_i hc
      injection hs with hs; injection hs with e3 e4; subst e3; subst e4
      refine .still h (run_v ?_) (.lit _)
      rw [run_index_string (P := P) w t s kk n ht, dif_pos hc, bt_at s n (by omega)]
    · cases hs
  · cases hs

theorem snd_sls (h : Sim s0 S w0 D X H st a w) {t : TypeId} {x : Operand} {x' : Opd} {lo hi : Option Operand} {lo' hi' : Option Opd} (ht : P.underlying t = some .string) (hx : opd x = some x')
    (hlo : lo' = none ∧ lo = none ∨ ∃ y y', lo' = some y' ∧ lo = some y ∧ opd y = some y') (hhi : hi' = none ∧ hi = none ∨ ∃ y y', hi' = some y' ∧ hi = some y ∧ opd y = some y') {i : Nat} {r : AV} {M' : List (Option Blk)}
    (hs : astep i st (.sls x' lo' hi') = some (r, M')) : Does P s0 S w0 D X H i st a w (do pure (Next.value (← Instr.sliceAt t (a.eval x) (lo.map a.eval) (hi.map a.eval) none))) r M' := by
  simp only [astep] at hs
  have h1 := h.ev hx
  generalize a.eval x = vx at h1 ⊢
  split at hs
  · rename_i s e1
    obtain rfl := h1.strOf e1
    have hat : (Instr.sliceAt t (.string s) (lo.map a.eval) (hi.map a.eval) none).run P w = (Instr.slice t (.string s) (lo.map a.eval) (hi.map a.eval) none).run P w := by simp [Instr.sliceAt, run_underlying ht]
    split at hs
    · rename_i l hh e2 e3
      split at hs
      · rename_i hc
        obtain ⟨c1, c2, c3⟩ := hc
        injection hs with hs; injection hs with e4 e5; subst e4; subst e5
        refine .still h (run_v (v := .string (s.extract l.toNat hh.toNat)) ?_) (.lit _)
        rw [hat]
        rcases hlo with ⟨rfl, rfl⟩ | ⟨y, y', rfl, rfl, hy⟩ <;> rcases hhi with ⟨rfl, rfl⟩ | ⟨z, z', rfl, rfl, hz⟩
        · simp only [St.bnd, Option.some.injEq] at e2 e3; subst e2; subst e3
          simpa using run_slice_string_all (P := P) w t s ht
        · simp only [St.bnd, Option.some.injEq] at e2; subst e2
          obtain ⟨kz, hz', _⟩ := (h.ev hz).intOf e3
          simp only [Option.map_some, Option.map_none, hz']
          simp [run_slice_string_h (ht := ht) (h0 := (by omega : 0 ≤ hh)) (h2 := c3)]
        · simp only [St.bnd, Option.some.injEq] at e3; subst e3
          obtain ⟨ky, hy', _⟩ := (h.ev hy).intOf e2
          simp only [Option.map_some, Option.map_none, hy']
          simp [run_slice_string_l (ht := ht) (h0 := c1) (h1 := (by omega : l ≤ s.size))]
        · obtain ⟨ky, hy', _⟩ := (h.ev hy).intOf e2
          obtain ⟨kz, hz', _⟩ := (h.ev hz).intOf e3
          simp only [Option.map_some, hy', hz']
          exact run_slice_string (P := P) w t s ky kz l hh ht c1 c2 c3
      · cases hs
    · cases hs
  · cases hs

/-- A slice's head, whatever is known of it: its length and its room. -/
theorem Sim.rowHead (h : Sim s0 S w0 D X H st a w) {x : AV} {v : Value} {k n : Nat} {cs : List AV} (hx : C X s0 H x v) (hr : st.row k x = some (n, cs)) : ∃ p c, v = .slice p n c ∧ n ≤ c := by
  unfold St.row at hr
  split at hr
  · split at hr
    · rename_i hb
      split at hr
      · injection hr with hr; injection hr with e1 e2; subst e1; subst e2
        obtain ⟨_, _, v0, xs, a1, a2, _, _⟩ := h.rowAt hb
        cases hx with
        | own b1 b2 =>
          rw [a1] at b1; injection b1 with b1; subst b1
          rcases ownsRow_head a2 with ⟨rfl, rfl⟩ | ⟨b, cap, rfl, hc⟩
          · exact ⟨none, 0, rfl, Nat.le_refl _⟩
          · exact ⟨_, cap, rfl, hc⟩
      · cases hr
    · cases hr
  · split at hr
    · split at hr
      · injection hr with hr; injection hr with e1 e2; subst e1; subst e2
        cases hx with
        | sub b1 b2 b3 b4 => exact ⟨_, _, rfl, by omega⟩
      · cases hr
    · cases hr
  · split at hr
    · injection hr with hr; injection hr with e1 e2; subst e1; subst e2
      cases hx with
      | frz0 => exact ⟨_, _, rfl, Nat.zero_le _⟩
      | frz hl h0 hn hc hv hx' hC => exact ⟨_, _, rfl, hc⟩
    · cases hr
  · injection hr with hr; injection hr with e1 e2; subst e1; subst e2
    cases hx; exact ⟨none, 0, rfl, Nat.le_refl _⟩
  · cases hr

/-- A slice's cells, as they lie. -/
theorem Sim.rowCells (h : Sim s0 S w0 D X H st a w) {x : AV} {v : Value} {k n : Nat} {cs : List AV} (hx : C X s0 H x v) (hr : st.row k x = some (n, cs)) :
    ∃ vs, vs.length = n * k ∧ Cs X s0 H cs vs ∧ (n = 0 ∨ ∃ b o c, v = .slice (some ⟨b, o, none⟩) n c ∧ ∀ (j : Nat) (u : Value), vs[j]? = some u → w.cell? ⟨b, o + j, none⟩ = some u) := by
  unfold St.row at hr
  split at hr
  · split at hr
    · rename_i hb
      split at hr
      · rename_i hk
        subst hk
        injection hr with hr; injection hr with e1 e2; subst e1; subst e2
        obtain ⟨_, _, v0, xs, a1, a2, a3, _⟩ := h.rowAt hb
        cases hx with
        | own b1 b2 =>
          rw [a1] at b1; injection b1 with b1; subst b1
          refine ⟨xs, a2.1, a3, ?_⟩
          rcases ownsRow_head a2 with ⟨rfl, rfl⟩ | ⟨b, cap, rfl, hc⟩
          · exact .inl rfl
          · refine .inr ⟨b, 0, cap, rfl, fun j u hj => ?_⟩
            have hlt : j < xs.length := (List.getElem?_eq_some_iff.1 hj).1
            rw [Nat.zero_add, a2.cellAt j (by have := a2.1; omega)]; exact hj
      · cases hr
    · cases hr
  · split at hr
    · rename_i hb
      split at hr
      · rename_i hc
        obtain ⟨rfl, hk2, hle⟩ := hc
        subst hk2
        injection hr with hr; injection hr with e1 e2; subst e1; subst e2
        obtain ⟨_, _, v0, xs, a1, a2, a3, _⟩ := h.rowAt hb
        cases hx with
        | sub b1 b2 b3 b4 =>
          rename_i b n2 cap
          rw [a1] at b1; injection b1 with b1; subst b1
          refine ⟨(xs.drop _).take _, ?_, (a3.drop _).take _, .inr ⟨b, _, _, rfl, fun j u hj => ?_⟩⟩
          · rename_i off len _ _ _ _
            rw [List.length_take, List.length_drop, a2.1, Nat.min_eq_left]
            rw [← Nat.sub_mul]
            exact Nat.mul_le_mul_right _ (by omega)
          · rename_i off len _ _ _ _
            rw [List.getElem?_take] at hj
            split at hj
            · rename_i hjl
              rw [List.getElem?_drop] at hj
              rcases ownsRow_head a2 with ⟨e, _⟩ | ⟨b', cap', e, _⟩
              · cases e
              · have hlt := (List.getElem?_eq_some_iff.1 hj).1
                injection e with e5 e6 e7
                injection e5 with e5; injection e5 with e5
                subst e6; subst e7
                rw [a2.cellAt _ (by have := a2.1; omega)]; exact hj
            · cases hj
      · cases hr
    · cases hr
  · split at hr
    · rename_i hk
      injection hr with hr; injection hr with e1 e2; subst e1; subst e2
      cases hx with
      | frz0 => exact ⟨[], by simp, Cs.nil, .inl rfl⟩
      | frz hl h0 hn hc hv hx' hC =>
        rename_i b o c vs
        refine ⟨vs, ?_, ⟨hv, hC⟩, .inr ⟨_, _, _, rfl, fun j u hj => h.claims _ _ _ (hx' j u hj)⟩⟩
        rcases hk with rfl | hk
        · omega
        · omega
    · cases hr
  · injection hr with hr; injection hr with e1 e2; subst e1; subst e2
    exact ⟨[], by simp, Cs.nil, .inl rfl⟩
  · cases hr

theorem run_slice_bounds {t e : TypeId} {k : Nat} (ht : P.underlying t = some (.slice e)) (hk : ∃ inf, P.info? e = some inf ∧ inf.size = k) (h : Sim s0 S w0 D X H st a w) {lo hi : Option Operand} {lo' hi' : Option Opd}
    (hlo : lo' = none ∧ lo = none ∨ ∃ y y', lo' = some y' ∧ lo = some y ∧ opd y = some y') (hhi : hi' = none ∧ hi = none ∨ ∃ y y', hi' = some y' ∧ hi = some y ∧ opd y = some y') {p : Option Addr} {n c : Nat} {l m : Int}
    (e2 : st.bnd lo' 0 = some l) (e3 : st.bnd hi' n = some m) (c1 : 0 ≤ l) (c2 : l ≤ m) (c3 : m ≤ n) (hnc : n ≤ c) :
    (Instr.sliceAt t (.slice p n c) (lo.map a.eval) (hi.map a.eval) none).run P w = .ok (sliced p l.toNat m.toNat c k) w := by
  obtain ⟨inf, hinf, rfl⟩ := hk
  have he : P.elem t = e := by simp [Program.elem, ht]
  have hs : (sizeOf (P.elem t)).run P w = .ok inf.size w := by simp [he, sizeOf, typeInfo, hinf]
  have ht' : P.underlying t = some (.slice (P.elem t)) := by rw [he]; exact ht
  rw [run_sliceAt_slice (P := P) w t _ _ _ _ ht']
  rcases hlo with ⟨rfl, rfl⟩ | ⟨y, y', rfl, rfl, hy⟩ <;> rcases hhi with ⟨rfl, rfl⟩ | ⟨z, z', rfl, rfl, hz⟩
  · simp only [St.bnd, Option.some.injEq] at e2 e3; subst e2; subst e3
    simp only [Option.map_none]
    rw [run_slice_all (ht := ht'), hs]; simp
  · simp only [St.bnd, Option.some.injEq] at e2; subst e2
    obtain ⟨kz, hz', _⟩ := (h.ev hz).intOf e3
    simp only [Option.map_some, Option.map_none, hz']
    rw [run_slice_h (ht := ht') (h0 := by omega) (h2 := by omega), hs]; simp
  · simp only [St.bnd, Option.some.injEq] at e3; subst e3
    obtain ⟨ky, hy', _⟩ := (h.ev hy).intOf e2
    simp only [Option.map_some, Option.map_none, hy']
    rw [run_slice_l (ht := ht') (h0 := by omega) (h1 := by omega), hs]; simp
  · obtain ⟨ky, hy', _⟩ := (h.ev hy).intOf e2
    obtain ⟨kz, hz', _⟩ := (h.ev hz).intOf e3
    simp only [Option.map_some, hy', hz']
    rw [run_slice_lh (ht := ht') (h0 := by omega) (h1 := by omega) (h2 := by omega), hs]; simp

theorem snd_slc (h : Sim s0 S w0 D X H st a w) {t e : TypeId} {k : Nat} {x : Operand} {x' : Opd} {lo hi : Option Operand} {lo' hi' : Option Opd} (ht : P.underlying t = some (.slice e)) (hk : ∃ inf, P.info? e = some inf ∧ inf.size = k) (hx : opd x = some x')
    (hlo : lo' = none ∧ lo = none ∨ ∃ y y', lo' = some y' ∧ lo = some y ∧ opd y = some y') (hhi : hi' = none ∧ hi = none ∨ ∃ y y', hi' = some y' ∧ hi = some y ∧ opd y = some y') {i : Nat} {r : AV} {M' : List (Option Blk)}
    (hs : astep i st (.slc k x' lo' hi') = some (r, M')) : Does P s0 S w0 D X H i st a w (do pure (Next.value (← Instr.sliceAt t (a.eval x) (lo.map a.eval) (hi.map a.eval) none))) r M' := by
  simp only [astep] at hs
  have h1 := h.ev hx
  generalize a.eval x = vx at h1 ⊢
  split at hs
  · rename_i n cs e1
    obtain ⟨p, c, rfl, hnc⟩ := h.rowHead h1 e1
    split at hs
    · rename_i l m e2 e3
      split at hs
      · rename_i hc
        obtain ⟨c1, c2, c3⟩ := hc
        have hr := run_slice_bounds (P := P) (k := k) ht hk h hlo hhi (p := p) (c := c) e2 e3 c1 c2 c3 hnc
        split at hs
        · rename_i hlm
          injection hs with hs; injection hs with e4 e5; subst e4; subst e5
          refine .still h (run_v hr) ?_
          subst hlm
          unfold sliced
          rw [Nat.sub_self]
          exact .frz0
        · rename_i hlm
          have hne : ¬ c = l.toNat := by omega
          split at hs
          · rename_i id g ex
            injection hs with hs; injection hs with e4 e5; subst e4; subst e5
            refine .still h (run_v hr) ?_
            rw [ex] at h1 e1
            unfold St.row at e1
            simp only at e1
            split at e1
            · rename_i hb
              split at e1
              · rename_i hk'
                subst hk'
                injection e1 with e1; injection e1 with e6 e7; subst e6; subst e7
                obtain ⟨_, _, v0, xs, a1, a2, a3, _⟩ := h.rowAt hb
                cases h1 with
                | own b1 b2 =>
                  rw [a1] at b1; injection b1 with b1
                  rcases ownsRow_head a2 with ⟨e8, e9⟩ | ⟨b, cap, e8, hcp⟩
                  · omega
                  · rw [b1] at e8; injection e8 with e8 e9 e10; subst e8; subst e10
                    unfold sliced
                    rw [if_neg hne]
                    simp only [Option.map_some, add_at0]
                    exact .sub (by rw [a1, b1]) (by omega) (by omega) hnc
              · cases e1
            · cases e1
          · rename_i id g k' off len ex
            injection hs with hs; injection hs with e4 e5; subst e4; subst e5
            refine .still h (run_v hr) ?_
            rw [ex] at h1 e1
            unfold St.row at e1
            simp only at e1
            split at e1
            · split at e1
              · rename_i hk'
                obtain ⟨rfl, _, hle⟩ := hk'
                injection e1 with e1; injection e1 with e6 e7; subst e6
                cases h1 with
                | sub b1 b2 b3 b4 =>
                  rename_i b n2 cap
                  unfold sliced
                  rw [if_neg hne]
                  simp only [Option.map_some, add_at]
                  have := C.sub (X := X) (s0 := s0) (k := k') (off := off + l.toNat) (len := m.toNat - l.toNat) b1 (by omega) (by omega) b4
                  rw [Nat.add_mul, show cap - (off + l.toNat) = cap - off - l.toNat by omega] at this
                  exact this
              · cases e1
            · cases e1
          · rename_i lab k' m' cs' ex
            injection hs with hs; injection hs with e4 e5; subst e4; subst e5
            refine .still h (run_v hr) ?_
            rw [ex] at h1 e1
            unfold St.row at e1
            simp only at e1
            split at e1
            · rename_i hk'
              injection e1 with e1; injection e1 with e6 e7; subst e6; subst e7
              cases h1 with
              | frz0 => omega
              | frz hl h0 hn hc' hv hx' hC =>
                rename_i b o vs
                have hkk : k' = k := by rcases hk' with hk' | hk' <;> omega
                subst hkk
                unfold sliced
                rw [if_neg hne]
                simp only [Option.map_some, add_at]
                refine .frz hl (by omega) ?_ (by omega) (vs := (vs.drop (l.toNat * k')).take ((m.toNat - l.toNat) * k')) (by simp [hv]) ?_ (((Cs.mk hv hC).drop _).take _).at_
                · rw [List.length_take, List.length_drop, hn, Nat.min_eq_left]
                  rw [← Nat.sub_mul]
                  exact Nat.mul_le_mul_right _ (by omega)
                · intro j v hj
                  rw [List.getElem?_take] at hj
                  split at hj
                  · rw [List.getElem?_drop] at hj
                    rw [Nat.add_assoc]; exact hx' _ v hj
                  · cases hj
            · cases e1
          · cases hs
      · cases hs
    · cases hs
  · cases hs
theorem u8s_vals {X : Claims} {s0 : Nat} {H : Heads} : ∀ {cs : List AV} {vs : List Value} {l : List Int}, Cs X s0 H cs vs → u8s cs = some l → vs = l.map (Value.int .u8)
  | [], vs, l, h, e => by
    simp only [u8s, Option.some.injEq] at e; subst e
    exact List.eq_nil_of_length_eq_zero (by rw [h.len]; rfl)
  | x :: cs, [], l, h, e => by have := h.len; simp at this
  | x :: cs, v :: vs, l, h, e => by
    simp only [u8s] at e
    split at e
    · rename_i z
      cases e1 : u8s cs with
      | none => rw [e1] at e; cases e
      | some l' =>
        rw [e1] at e; injection e with e; subst e
        have h0 := h.at_ 0 _ v rfl rfl
        cases h0
        rw [u8s_vals (cs := cs) (vs := vs) ⟨by have := h.len; simp at this; omega, fun j y u hy hu => h.at_ (j + 1) y u (by simpa using hy) (by simpa using hu)⟩ e1]
        rfl
    · cases e
theorem snd_b2s (h : Sim s0 S w0 D X H st a w) {s d e : TypeId} {x : Operand} {x' : Opd} (hs' : P.underlying s = some (.slice e)) (he : P.underlying e = some (.int .u8)) (hd : P.underlying d = some .string) (hx : opd x = some x') {i : Nat} {r : AV} {M' : List (Option Blk)}
    (hs : astep i st (.b2s x') = some (r, M')) : Does P s0 S w0 D X H i st a w (do pure (Next.value (← convert s d (a.eval x)))) r M' := by
  simp only [astep] at hs
  have h1 := h.ev hx
  split at hs
  · rename_i n cs hr
    cases e1 : u8s cs with
    | none => rw [e1] at hs; cases hs
    | some l =>
      rw [e1] at hs
      injection hs with hs; injection hs with e3 e4; subst e3; subst e4
      obtain ⟨p, c, hv, hnc⟩ := h.rowHead h1 hr
      obtain ⟨vs, hl, hcs, hor⟩ := h.rowCells h1 hr
      have hvs := u8s_vals hcs e1
      refine .still h (run_v ?_) (.lit _)
      rw [hv]
      rw [run_convert_bytes_string w s d e p n c hs' he hd]
      by_cases hn : n = 0
      · subst hn
        have : l = [] := by
          have : l.length = 0 := by rw [← List.length_map (f := Value.int .u8), ← hvs, hl]
          exact List.eq_nil_of_length_eq_zero this
        subst this
        cases p with
        | none => rfl
        | some a0 => exact run_bytesToString w a0 0 c [] rfl
      · rcases hor with h0 | ⟨b, o, c', hv', hcell⟩
        · exact absurd h0 hn
        · rw [hv] at hv'; injection hv' with e5 e6 e7; subst e5; subst e7
          refine run_bytesToString w _ n c l ?_
          have := run_loadCells_list (P := P) w ⟨b, o, none⟩ vs (fun j u hj => by rw [add_at]; exact hcell j u hj)
          rw [hl, Nat.mul_one] at this
          rw [this, hvs]
  · cases hs
end
end Go.Proofs.YtbpajecjaoefaaaGreat.V

/- The abstract machine: each operation is what the model does (4): what is made, appends, structs, maps. -/
namespace Go.Proofs.YtbpajecjaoefaaaGreat.V
open Go Go.RowKit

theorem flat_rep {α : Type} (l : List α) : ∀ (n j : Nat), ((List.replicate n l).flatten)[j]? = if j < n * l.length then l[j % l.length]? else none
  | 0, j => by simp
  | n + 1, j => by
    rw [List.replicate_succ, List.flatten_cons]
    by_cases h : j < l.length
    · rw [List.getElem?_append_left h, Nat.mod_eq_of_lt h, if_pos]
      rw [Nat.succ_mul]; omega
    · rw [List.getElem?_append_right (by omega), flat_rep l n]
      have e : (j - l.length) % l.length = j % l.length := by rw [← Nat.mod_eq_sub_mod (by omega)]
      rw [e, Nat.succ_mul]
      by_cases h2 : j - l.length < n * l.length
      · rw [if_pos h2, if_pos (by omega)]
      · rw [if_neg h2, if_neg (by omega)]

section
variable {P : Program} {s0 : Nat} {S : Nat → Nat → Prop} {w0 : Base} {D : Nat → Prop} {X : Claims} {H : Heads} {st : St} {a : Act} {w : World}

theorem Cs.lits (X : Claims) (s0 : Nat) (H : Heads) (vs : List Value) : Cs X s0 H (vs.map .lit) vs :=
  ⟨by simp, fun j x v hx hv => by
    rw [List.getElem?_map, hv] at hx; injection hx with hx; subst hx; exact .lit v⟩
theorem Cs.made (X : Claims) (s0 : Nat) (H : Heads) (z : Array Value) (k n : Nat) (hz : z.size = k) : Cs X s0 H ((List.replicate n (z.toList.map AV.lit)).flatten) (madeCells z (n * k)).toList :=
  ⟨by rw [Array.length_toList, size_madeCells]; simp [List.length_flatten, hz], fun j x v hx hv => by
    rw [flat_rep] at hx
    split at hx
    · rename_i hj
      simp only [List.length_map, Array.length_toList] at hx hj
      rw [Array.getElem?_toList] at hv
      simp only [madeCells, Array.getElem?_map] at hv
      have hj' : j < n * k := by rw [← hz]; exact hj
      rw [Array.getElem?_range, if_pos hj'] at hv
      simp only [Option.map_some, Option.some.injEq] at hv
      have hlt : j % z.size < z.size := Nat.mod_lt _ (by
        rcases Nat.eq_zero_or_pos z.size with h | h
        · rw [h] at hj; simp at hj
        · exact h)
      rw [List.getElem?_map, Array.getElem?_toList, Array.getElem?_eq_getElem hlt] at hx
      simp only [Option.map_some, Option.some.injEq] at hx
      subst hx; subst hv
      rw [getElem!_pos z _ hlt]
      exact .lit _
    · cases hx⟩

theorem snd_mk (h : Sim s0 S w0 D X H st a w) (hq : w0.q = false) {id k by_ : Nat} {t e : TypeId} {inf : TypeInfo} {z : Value} {x y : Operand} {x' y' : Opd} (ht : P.underlying t = some (.slice e)) (hinf : P.info? e = some inf) (hz : inf.zero = some z) (hk : inf.size = k)
    (hb : inf.bytes = by_) (hx : opd x = some x') (hy : opd y = some y') {i : Nat} (hi : ¬ D i) {r : AV} {M' : List (Option Blk)} (hs : astep i st (.mk id e k by_ z.cells.toList x' y') = some (r, M')) :
    Does P s0 S w0 D X H i st a w (do pure (Next.value (← Instr.makeSlice t (a.eval x) (a.eval y)))) r M' := by
  simp only [astep] at hs
  have h1 := h.ev hx
  have h2 := h.ev hy
  generalize a.eval x = vx at h1 ⊢
  generalize a.eval y = vy at h2 ⊢
  split at hs
  · rename_i n c e1 e2
    obtain ⟨kx, rfl, _⟩ := h1.intOf e1
    obtain ⟨ky, rfl, _⟩ := h2.intOf e2
    split at hs
    · rename_i hc
      obtain ⟨c1, c2, c3, c4, c5, c6, c7, c8⟩ := hc
      injection hs with hs; injection hs with e3 e4; subst e3; subst e4
      subst hb
      have hzk : z.cells.size = k := by simpa using c3
      have h63 : c.toNat ≤ maxLen := by simp only [maxLen]; omega
      have hby : inf.bytes * c.toNat ≤ 281474976710656 := by
        have : ((inf.bytes * c.toNat : Nat) : Int) ≤ 281474976710656 := by rw [Int.natCast_mul, Int.toNat_of_nonneg c6]; exact c7
        omega
      have key : ∃ w', (Instr.makeSlice t (.int kx n) (.int ky c)).run P w = .ok (.slice (some ⟨w.heap.size, 0, none⟩) n.toNat c.toNat) w' ∧
          w'.ownsRow 0 e k (.slice (some ⟨w.heap.size, 0, none⟩) n.toNat c.toNat) n.toNat (madeCells z.cells (n.toNat * k)).toList ∧ w.grownBy w' none := by
        rcases c5 with rfl | rfl
        · obtain ⟨w', r1, r2, r3⟩ := run_make_full (P := P) w 0 t e inf z k ht hinf hz hk kx ky n.toNat hby h63 (Nat.zero_le _)
          rw [Int.toNat_of_nonneg c6] at r1
          exact ⟨w', r1, r2, r3⟩
        · obtain ⟨w', r1, r2, r3⟩ := run_make_own (P := P) w 0 t e inf z k ht hinf hz hk kx ky c.toNat hby h63 (Nat.zero_le _)
          rw [Int.toNat_of_nonneg c6] at r1
          refine ⟨w', r1, ?_, r3⟩
          have e0 : (madeCells z.cells ((0 : Int).toNat * k)).toList = [] := by simp [madeCells]
          rw [e0]; exact r2
      obtain ⟨w', r1, r2, r3⟩ := key
      have hle := Heads.upd_le (v := .slice (some ⟨w.heap.size, 0, none⟩) n.toNat c.toNat) (h.gens id st.g i (.inr ⟨rfl, hi⟩))
      refine ⟨_, w', _, .inl (run_v r1), hle, ?_, .own (Heads.upd_same ..) rfl⟩
      refine h.fresh hi c1 (q_false hq) r3 (by simp) rfl (fun b hb => .inl (by simp [hblk] at hb; omega)) ?_
      refine ⟨_, _, Heads.upd_same .., r2, ?_, c2, fun b hb => ?_⟩
      · exact Cs.made X s0 _ z.cells k n.toNat hzk
      · simp only [hblk, Option.some.injEq] at hb
        refine ⟨.inl (by have := h.size; omega), fun o => ?_⟩
        cases hX : X b o with
        | none => rfl
        | some u => have := World.block_lt_of_cell? w _ (h.claims b o u hX); simp only at this; omega
    · cases hs
  · cases hs

/-- A new block of the call's own. -/
theorem Sim.X_new (h : Sim s0 S w0 D X H st a w) {b : Nat} (hb : w.heap.size ≤ b) (o : Nat) : X b o = none := by
  cases hX : X b o with
  | none => rfl
  | some u => have := World.block_lt_of_cell? w _ (h.claims b o u hX); simp only at this; omega

theorem snd_app (h : Sim s0 S w0 D X H st a w) (hq : w0.q = false) {id k by_ : Nat} {t e ty : TypeId} {inf : TypeInfo} {z : Value} {x y : Operand} {x' y' : Opd} (ht : P.underlying t = some (.slice e)) (hinf : P.info? e = some inf) (hz : inf.zero = some z) (hk : inf.size = k)
    (hbt : inf.bytes = by_) (hzs : z.cells.size = k) (hx : opd x = some x') (hy : opd y = some y') {i : Nat} (hi : ¬ D i) {r : AV} {M' : List (Option Blk)} (hs : astep i st (.app id e k by_ x' y') = some (r, M')) :
    Does P s0 S w0 D X H i st a w (do pure (Next.value (← Builtin.append_ #[t, t] ty #[a.eval x, a.eval y]))) r M' := by
  simp only [astep] at hs
  have h1 := h.ev hx
  have h2 := h.ev hy
  generalize a.eval x = vx at h1 ⊢
  generalize a.eval y = vy at h2 ⊢
  split at hs
  · rename_i m ds er
    obtain ⟨us, u1, u2, u3⟩ := h.rowCells h2 er
    obtain ⟨py, cy, rfl, _⟩ := h.rowHead h2 er
    -- the append itself, to a row
    have app : ∀ (v : Value) (n : Nat) (xs : List Value), w.ownsRow 0 e k v n xs → (n + m) * by_ ≤ 140737488355328 → n + m ≤ 9223372036854775807 → (∀ u ∈ us, u.oneCell' = true) → 0 < k →
        ∃ (v' : Value) (w' : World), (Builtin.append_ #[t, t] ty #[v, .slice py m cy]).run P w = .ok v' w' ∧ w'.ownsRow 0 e k v' (n + m) (xs ++ us) ∧ w.grownBy w' v.ownBlock ∧ v'.oneCell' = true ∧ (∀ b, hblk v' = some b → w.heap.size ≤ b ∨ v.ownBlock = some b) := by
      intro v n xs ho b1 b2 b3 b4
      have hout : ∀ (v' : Value) (w' : World), w'.ownsRow 0 e k v' (n + m) (xs ++ us) → v'.oneCell' = true := by
        intro v' w' hr
        rcases ownsRow_head hr with ⟨rfl, _⟩ | ⟨b, cap, rfl, _⟩ <;> rfl
      -- where the row goes: from the law's own run
      have hwhere : ∀ (v' : Value) (w' : World), (Builtin.append_ #[t, t] ty #[v, .slice py m cy]).run P w = .ok v' w' → w'.ownsRow 0 e k v' (n + m) (xs ++ us) → ∀ b, hblk v' = some b → w.heap.size ≤ b ∨ v.ownBlock = some b := by
        intro v' w' hr hr' b hb
        rcases ownsRow_head ho with ⟨rfl, rfl⟩ | ⟨g, cap, rfl, hcp⟩
        · -- nil
          by_cases hm : m = 0
          · subst hm
            have hus : us = [] := List.eq_nil_of_length_eq_zero (by simpa using u1)
            subst hus
            rcases ownsRow_head hr' with ⟨rfl, _⟩ | ⟨b', cap', rfl, _⟩
            · simp [hblk] at hb
            · -- an empty append to nil is nil
              have : (Builtin.append_ #[t, t] ty #[.slice none 0 0, .slice py 0 cy]).run P w = .ok (.slice none 0 0) w := by
                cases py <;> simp [Builtin.append_, run_underlying ht, sizeOf, typeInfo, hinf, Builtin.lenOf, Builtin.firstCells, loadCells, loadCellsFrom]
              rw [this] at hr; injection hr with e1 _; cases e1
          · obtain ⟨b0, o0, c0, e0, hcell⟩ := u3.resolve_left (by omega)
            injection e0 with e5 e6 e7
            subst e5
            have := run_append_nil (P := P) w t ty e inf z ht hinf hz ⟨b0, o0, none⟩ m cy us (by rw [u1, hk]) (fun j u hj => by rw [add_at]; exact hcell j u hj) (by omega) (by omega) (by rw [hbt]; simp only [Nat.zero_add] at b1; omega)
            rw [this] at hr
            injection hr with e8 e9
            rw [← e8] at hb
            simp only [hblk, Option.some.injEq] at hb
            exact .inl (by omega)
        · by_cases hroom : n + m ≤ cap
          · by_cases hm : m = 0
            · subst hm
              have hus : us = [] := List.eq_nil_of_length_eq_zero (by simpa using u1)
              subst hus
              rcases ho.2 with ⟨hq, _⟩ | ⟨g', cap', cur, hq, _, hg, _⟩
              · cases hq
              · have hrun : (Builtin.append_ #[t, t] ty #[.slice (some ⟨g, 0, none⟩) n cap, .slice py 0 cy]).run P w = .ok (.slice (some ⟨g, 0, none⟩) n cap) w := by
                  have hroom' : n ≤ cap := hcp
                  cases py <;> simp [Builtin.append_, run_underlying ht, sizeOf, typeInfo, hinf, Builtin.lenOf, Builtin.firstCells, loadCells, loadCellsFrom, hroom', storeCells]
                rw [hrun] at hr
                injection hr with e8 e9
                rw [← e8] at hb
                simp only [hblk, Option.some.injEq] at hb
                exact .inr (by simp [Value.ownBlock, hb])
            · obtain ⟨b0, o0, c0, e0, hcell⟩ := u3.resolve_left (by omega)
              injection e0 with e5 e6 e7
              subst e5
              rcases ho.2 with ⟨hq, _⟩ | ⟨g', cap', cur, hq, _, hg, _, _, hcs, _⟩
              · cases hq
              · injection hq with hq1 hq2 hq3
                injection hq1 with hq1; injection hq1 with hq1
                subst hq1; subst hq3
                have := run_append_room (P := P) w t ty e inf ht hinf g n cap cur hg ⟨b0, o0, none⟩ m cy us (by rw [u1, hk]) (fun j u hj => by rw [add_at]; exact hcell j u hj) b3 hroom (by rw [u1, hcs, hk, ← Nat.add_mul]; exact Nat.mul_le_mul_right _ hroom)
                rw [this] at hr
                injection hr with e8 e9
                rw [← e8] at hb
                simp only [hblk, Option.some.injEq] at hb
                exact .inr (by simp [Value.ownBlock, hb])
          · have hm : m ≠ 0 := by omega
            obtain ⟨b0, o0, c0, e0, hcell⟩ := u3.resolve_left hm
            injection e0 with e5 e6 e7
            subst e5
            have := run_append_grow (P := P) w t ty e inf z ht hinf hz ⟨g, 0, none⟩ n cap xs (by rw [ho.1, hk]) (ho.cells (g := g) rfl) ⟨b0, o0, none⟩ m cy us (by rw [u1, hk]) (fun j u hj => by rw [add_at]; exact hcell j u hj) (by omega) (by omega)
              (growslice_fits (by omega) (by rw [hbt]; exact b1))
            rw [this] at hr
            injection hr with e8 e9
            rw [← e8] at hb
            simp only [hblk, Option.some.injEq] at hb
            exact .inl (by omega)
      by_cases hm : m = 0
      · subst hm
        have hus : us = [] := List.eq_nil_of_length_eq_zero (by simpa using u1)
        subst hus
        rcases ownsRow_head ho with ⟨rfl, rfl⟩ | ⟨g, cap, rfl, hcp⟩
        · have hrun : (Builtin.append_ #[t, t] ty #[.slice none 0 0, .slice py 0 cy]).run P w = .ok (.slice none 0 0) w := by
            cases py <;> simp [Builtin.append_, run_underlying ht, sizeOf, typeInfo, hinf, Builtin.lenOf, Builtin.firstCells, loadCells, loadCellsFrom]
          exact ⟨_, w, hrun, by simpa using ho, ⟨rfl, rfl, rfl, Nat.le_refl _, fun _ _ _ => rfl⟩, rfl, by simp [hblk]⟩
        · have hrun : (Builtin.append_ #[t, t] ty #[.slice (some ⟨g, 0, none⟩) n cap, .slice py 0 cy]).run P w = .ok (.slice (some ⟨g, 0, none⟩) n cap) w := by
            have hroom' : n ≤ cap := hcp
            cases py <;> simp [Builtin.append_, run_underlying ht, sizeOf, typeInfo, hinf, Builtin.lenOf, Builtin.firstCells, loadCells, loadCellsFrom, hroom', storeCells]
          exact ⟨_, w, hrun, by simpa using ho, ⟨rfl, rfl, rfl, Nat.le_refl _, fun _ _ _ => rfl⟩, rfl, fun b hb => .inr (by simpa [hblk, Value.ownBlock] using hb)⟩
      · obtain ⟨b0, o0, c0, e0, hcell⟩ := u3.resolve_left hm
        injection e0 with e5 e6 e7
        subst e5
        obtain ⟨v', w', r1, r2, r3, _⟩ := run_append_own (P := P) w 0 t ty e inf z k by_ ht hinf hz hk hbt hzs b4 v n xs ho ⟨b0, o0, none⟩ m cy us u1 (fun j u hj => by rw [add_at]; exact hcell j u hj) b3 (by simp only [maxLen]; omega) b1 (Nat.zero_le _)
        exact ⟨v', w', r1, r2, r3, hout v' w' r2, hwhere v' w' r1 r2⟩
    have hone : ds.all av1 = true → ∀ u ∈ us, u.oneCell' = true := by
      intro hd u hu
      obtain ⟨j, hj, rfl⟩ := List.getElem_of_mem hu
      have hj' : j < ds.length := by rw [← u2.len]; exact hj
      exact (u2.at_ j ds[j] _ (List.getElem?_eq_getElem hj') (List.getElem?_eq_getElem hj)).one (List.all_eq_true.1 hd _ (List.getElem_mem hj'))
    split at hs
    · rename_i id' g ex
      rw [ex] at h1
      split at hs
      · rename_i g' e' k' n cs hb'
        split at hs
        · rename_i hc
          obtain ⟨rfl, rfl, c3, c4, c5⟩ := hc
          injection hs with hs; injection hs with e3 e4; subst e3; subst e4
          obtain ⟨rfl, hM, v0, xs, a1, a2, a3, a4⟩ := h.rowAt hb'
          obtain ⟨v1, xs1, q1, q2, q3, q4, q5⟩ := h.blks id' _ hM
          rw [a1] at q1; injection q1 with q1; subst q1
          cases h1 with
          | own b1 b2 =>
            rw [a1] at b1; injection b1 with b1; subst b1
            obtain ⟨v', w', r1, r2, r3, r4, r5⟩ := app _ n xs a2 c3 c4 (hone c5) a4
            have hlt : id' < st.M.length := (List.getElem?_eq_some_iff.1 hM).1
            have hle := Heads.upd_le (v := v') (h.gens id' st.g i (.inr ⟨rfl, hi⟩))
            refine ⟨_, w', _, .inl (run_v r1), hle, ?_, .own (Heads.upd_same ..) r4⟩
            rw [ownsRow_hblk a2] at r3 r5
            refine h.fresh hi hlt (q_false hq) r3 (fun b hb => ⟨_, _, hM, a1, hb⟩) rfl r5 ?_
            refine ⟨_, _, Heads.upd_same .., r2, (a3.append u2).mono (Claims.le.refl X) (Nat.le_refl _) hle, a4, fun b hb => ?_⟩
            rcases r5 b hb with hn | hn
            · exact ⟨.inl (Nat.le_trans h.size hn), h.X_new hn⟩
            · exact q5 b hn
        · cases hs
      · cases hs
    · rename_i ex
      rw [ex] at h1
      obtain rfl := h1.lit'
      split at hs
      · rename_i hc
        obtain ⟨c1, c2, c3, c4, c5⟩ := hc
        injection hs with hs; injection hs with e3 e4; subst e3; subst e4
        obtain ⟨v', w', r1, r2, r3, r4, r5⟩ := app _ 0 [] (World.ownsRow_nil w 0 e k) (by simpa using c3) (by simpa using c4) (hone c5) c2
        have hle := Heads.upd_le (v := v') (h.gens id st.g i (.inr ⟨rfl, hi⟩))
        refine ⟨_, w', _, .inl (run_v r1), hle, ?_, .own (Heads.upd_same ..) r4⟩
        refine h.fresh hi c1 (q_false hq) r3 (by simp [Value.ownBlock]) rfl r5 ?_
        simp only [Nat.zero_add, List.nil_append] at r2
        refine ⟨_, _, Heads.upd_same .., r2, u2.mono (Claims.le.refl X) (Nat.le_refl _) hle, c2, fun b hb => ?_⟩
        rcases r5 b hb with hn | hn
        · exact ⟨.inl (Nat.le_trans h.size hn), h.X_new hn⟩
        · simp [Value.ownBlock] at hn
      · cases hs
    · cases hs
  · cases hs
end
end Go.Proofs.YtbpajecjaoefaaaGreat.V

/- The abstract machine: each operation is what the model does (5): literals, structs, boxes, maps. -/
namespace Go.Proofs.YtbpajecjaoefaaaGreat.V
open Go Go.RowKit

section
variable {P : Program} {s0 : Nat} {S : Nat → Nat → Prop} {w0 : Base} {D : Nat → Prop} {X : Claims} {H : Heads} {st : St} {a : Act} {w : World}

theorem fill_one : ∀ (us : List Value) (cs : Array Value) (off m : Nat), ((us.zipIdx m).foldl (fun (cs : Array Value) (p : Value × Nat) => cs.setIfInBounds (off + p.2) p.1) cs).toList = spliceV cs.toList (off + m) us
  | [], cs, off, m => rfl
  | u :: us, cs, off, m => by
    simp only [List.zipIdx_cons, List.foldl_cons, spliceV]
    rw [fill_one us _ off (m + 1), Array.toList_setIfInBounds]
    rfl

/-- A composite's parts, one by one. -/
theorem fill_cells (place : Nat → Option (Nat × Nat)) : ∀ (ps : List (Nat × Nat × AV)) (vs : List (Nat × Value)) (cs : List AV) (cells : Array Value), Cs X s0 H cs cells.toList →
    ps.length = vs.length → (∀ (j : Nat) (p : Nat × Nat × AV) (q : Nat × Value), ps[j]? = some p → vs[j]? = some q → place q.1 = some (p.1, p.2.1) ∧ C X s0 H p.2.2 q.2 ∧ avs p.2.2 = true ∧ (avc p.2.2).length = p.2.1 ∧ p.1 + p.2.1 ≤ cs.length) →
    ∃ out, Instr.fill place cells vs = some out ∧ Cs X s0 H (ps.foldl (fun cs p => splice cs p.1 (avc p.2.2)) cs) out.toList
  | [], vs, cs, cells, h, hl, _ => by
    obtain rfl : vs = [] := List.eq_nil_of_length_eq_zero (by simpa using hl.symm)
    exact ⟨cells, rfl, h⟩
  | p :: ps, [], cs, cells, h, hl, _ => by simp at hl
  | p :: ps, q :: vs, cs, cells, h, hl, hp => by
    obtain ⟨h1, h2, h3, h4, h5⟩ := hp 0 p q rfl rfl
    obtain ⟨c1, _⟩ := h2.cells h3
    have hsz : q.2.cells.size = p.2.1 := by rw [← h4, ← c1.len]; simp
    have hc : cells.size = cs.length := by simpa using h.len
    have hone := fill_one q.2.cells.toList cells p.1 0
    have hn : Cs X s0 H (splice cs p.1 (avc p.2.2)) ((q.2.cells.toList.zipIdx 0).foldl (fun (cs : Array Value) (z : Value × Nat) => cs.setIfInBounds (p.1 + z.2) z.1) cells).toList := by
      rw [hone]; exact h.splice p.1 c1
    obtain ⟨out, o1, o2⟩ := fill_cells place ps vs _ _ hn (by simpa using hl) (fun j p' q' a b => by
      have := hp (j + 1) p' q' (by simpa using a) (by simpa using b)
      rw [splice_length]; exact this)
    refine ⟨out, ?_, o2⟩
    obtain ⟨q1, q2⟩ := q
    simp only [Instr.fill, h1]
    rw [if_neg (by simp only at hsz; simp; omega)]
    rw [show q2.cells.zipIdx.foldl (fun cs (x : Value × Nat) => cs.setIfInBounds (p.1 + x.2) x.1) cells = (q2.cells.toList.zipIdx 0).foldl (fun (cs : Array Value) (z : Value × Nat) => cs.setIfInBounds (p.1 + z.2) z.1) cells from by
      rw [← Array.foldl_toList, Array.toList_zipIdx]]
    exact o1

theorem snd_sl (h : Sim s0 S w0 D X H st a w) (hq : w0.q = false) {id k len : Nat} {t e : TypeId} {inf : TypeInfo} {z : Value} {parts : Array (Nat × Operand)} {parts' : List (Nat × Opd)} (ht : P.underlying t = some (.slice e)) (hinf : P.info? e = some inf)
    (hz : inf.zero = some z) (hk : inf.size = k) (hzs : z.cells.size = k) (hp : parts.toList.length = parts'.length) (hp' : ∀ (j : Nat) (p : Nat × Operand) (q : Nat × Opd), parts.toList[j]? = some p → parts'[j]? = some q → p.1 = q.1 ∧ opd p.2 = some q.2)
    {i : Nat} (hi : ¬ D i) {r : AV} {M' : List (Option Blk)} (hs : astep i st (.sl id e k len z.cells.toList parts') = some (r, M')) :
    Does P s0 S w0 D X H i st a w (do pure (Next.value (← Instr.buildSlice t len (parts.map fun (i, x) => (i, a.eval x))))) r M' := by
  simp only [astep] at hs
  split at hs
  · rename_i hc
    obtain ⟨c1, c2, c3, c4, c5, c6⟩ := hc
    injection hs with hs; injection hs with e3 e4; subst e3; subst e4
    have hinit : ((Array.range (len * k)).map (z.cells[· % z.cells.size]!)) = madeCells z.cells (len * k) := rfl
    have hcs := Cs.made X s0 H z.cells k len hzs
    obtain ⟨out, o1, o2⟩ := fill_cells (X := X) (s0 := s0) (H := H) (fun i => some (i * k, k)) (parts'.map fun p => (p.1 * k, k, st.ev p.2)) ((parts.map fun (i, x) => (i, a.eval x)).toList) _ _ hcs (by simpa using hp.symm) (by
      intro j p q hpj hqj
      rw [List.getElem?_map] at hpj
      rw [Array.toList_map, List.getElem?_map] at hqj
      cases e1 : parts'[j]? with
      | none => rw [e1] at hpj; cases hpj
      | some p0 =>
        cases e2 : parts.toList[j]? with
        | none => rw [e2] at hqj; cases hqj
        | some q0 =>
          rw [e1] at hpj; rw [e2] at hqj
          injection hpj with hpj; injection hqj with hqj
          subst hpj; subst hqj
          obtain ⟨d1, d2⟩ := hp' j q0 p0 e2 e1
          have hall := List.all_eq_true.1 c6 p0 (List.mem_of_getElem? e1)
          simp only [Bool.and_eq_true, beq_iff_eq, decide_eq_true_eq] at hall
          obtain ⟨⟨f1, f2⟩, f3⟩ := hall
          refine ⟨by simp [d1], h.ev d2, f1, f2, ?_⟩
          simp only [List.length_flatten, List.map_replicate, List.length_map, Array.length_toList, hzs, List.sum_replicate_nat]
          have : p0.1 * k + k = (p0.1 + 1) * k := by rw [Nat.succ_mul]
          rw [this]
          exact Nat.mul_le_mul_right _ f3)
    have hlen : out.size = len * k := by
      have hl := o2.len
      have : ∀ (ps : List (Nat × Nat × AV)) (cs : List AV), (ps.foldl (fun cs p => splice cs p.1 (avc p.2.2)) cs).length = cs.length := by
        intro ps
        induction ps with
        | nil => intro cs; rfl
        | cons p ps ih => intro cs; rw [List.foldl_cons, ih, splice_length]
      rw [this] at hl
      simp only [List.length_flatten, List.map_replicate, List.length_map, Array.length_toList, hzs, List.sum_replicate_nat] at hl
      exact hl
    have hrun : (Instr.buildSlice t len (parts.map fun (i, x) => (i, a.eval x))).run P w = .ok (.slice (some ⟨w.heap.size, 0, none⟩) len len) (w.alloc (.cells out e)) := by
      have hsz : (sizeOf e).run P w = .ok k w := by simp [sizeOf, typeInfo, hinf, hk]
      have hzv : (zeroValue e).run P w = .ok z w := by simp [zeroValue, typeInfo, hinf, hz]
      by_cases h0 : len * k = 0
      · have e0 : madeCells z.cells (len * k) = (Array.range (len * k)).map ((#[] : Array Value)[· % (#[] : Array Value).size]!) := by rw [h0]; simp [madeCells]
        rw [e0] at o1
        simp only [Array.toList_map] at o1
        simp only [Instr.buildSlice, Sem.run_bind, run_underlying ht, Result.andThen_ok, hsz]
        rw [if_neg (by omega)]
        simp [h0] at o1 ⊢
        simp [o1, newRow]
      · simp only [Array.toList_map] at o1
        rw [← hinit] at o1
        simp only [Instr.buildSlice, Sem.run_bind, run_underlying ht, Result.andThen_ok, hsz]
        rw [if_neg (by omega)]
        simp [h0, hzv] at o1 ⊢
        simp [o1, newRow]
    have hle := Heads.upd_le (v := .slice (some ⟨w.heap.size, 0, none⟩) len len) (h.gens id st.g i (.inr ⟨rfl, hi⟩))
    refine ⟨_, _, _, .inl (run_v hrun), hle, ?_, .own (Heads.upd_same ..) rfl⟩
    refine h.fresh hi c1 (q_false hq) (World.grownBy_alloc w _ none) (by simp) rfl (fun b hb => .inl (by simp [hblk] at hb; omega)) ?_
    refine ⟨_, _, Heads.upd_same .., World.ownsRow_lit w out len (Nat.zero_le _) (by simp only [maxLen]; omega) hlen, ?_, c2, fun b hb => ?_⟩
    · have := o2.mono (Claims.le.refl X) (Nat.le_refl _) hle
      rw [List.foldl_map] at this
      exact this
    · simp only [hblk, Option.some.injEq] at hb
      exact ⟨.inl (by have := h.size; omega), fun o => h.X_new (by omega) o⟩
  · cases hs

theorem snd_bld (h : Sim s0 S w0 D X H st a w) {t : TypeId} {fs : Array Field} {inf : TypeInfo} {z : Value} {places : List (Nat × Nat)} {parts : Array (Nat × Operand)} {parts' : List (Nat × Nat × Opd)} (ht : P.underlying t = some (.struct fs)) (hinf : P.info? t = some inf)
    (hz : inf.zero = some z) (hpl : fs.toList.mapM (fun f => (P.info? f.type).map fun i => (f.offset, i.size)) = some places) (hp : parts.toList.length = parts'.length)
    (hp' : ∀ (j : Nat) (p : Nat × Operand) (q : Nat × Nat × Opd), parts.toList[j]? = some p → parts'[j]? = some q → places.toArray[p.1]? = some (q.1, q.2.1) ∧ opd p.2 = some q.2.2) {i : Nat} {r : AV} {M' : List (Option Blk)}
    (hs : astep i st (.bld z.cells.toList parts') = some (r, M')) : Does P s0 S w0 D X H i st a w (do pure (Next.value (← Instr.build t (parts.map fun (i, x) => (i, a.eval x))))) r M' := by
  simp only [astep] at hs
  split at hs
  · rename_i hc
    injection hs with hs; injection hs with e3 e4; subst e3; subst e4
    obtain ⟨out, o1, o2⟩ := fill_cells (X := X) (s0 := s0) (H := H) (places.toArray[·]?) (parts'.map fun p => (p.1, p.2.1, st.ev p.2.2)) ((parts.map fun (i, x) => (i, a.eval x)).toList) _ _ (Cs.lits X s0 H z.cells.toList) (by simpa using hp.symm) (by
      intro j p q hpj hqj
      rw [List.getElem?_map] at hpj
      rw [Array.toList_map, List.getElem?_map] at hqj
      cases e1 : parts'[j]? with
      | none => rw [e1] at hpj; cases hpj
      | some p0 =>
        cases e2 : parts.toList[j]? with
        | none => rw [e2] at hqj; cases hqj
        | some q0 =>
          rw [e1] at hpj; rw [e2] at hqj
          injection hpj with hpj; injection hqj with hqj
          subst hpj; subst hqj
          obtain ⟨d1, d2⟩ := hp' j q0 p0 e2 e1
          have hall := List.all_eq_true.1 hc p0 (List.mem_of_getElem? e1)
          simp only [Bool.and_eq_true, beq_iff_eq, decide_eq_true_eq] at hall
          obtain ⟨⟨f1, f2⟩, f3⟩ := hall
          exact ⟨d1, h.ev d2, f1, f2, by simpa using f3⟩)
    have hbuilt : P.built t (parts.map fun (i, x) => (i, a.eval x)).toList = some out := by
      unfold Program.built
      simp only [hinf, ht, hz, hpl]
      exact o1
    rw [List.foldl_map] at o2
    refine .still h (run_v (run_build (P := P) w t _ out hbuilt)) (.agg (by have := o2.len; rw [Array.length_toList] at this; exact this) ?_)
    intro j x v hx hv
    exact o2.at_ j x v hx (by rw [Array.getElem?_toList]; exact hv)
  · cases hs

theorem snd_fld (h : Sim s0 S w0 D X H st a w) {t : TypeId} {f n : Nat} {fs : Array Field} {fd : Field} {d : TypeDesc} {ag : Bool} {x : Operand} {x' : Opd} (ht : P.underlying t = some (.struct fs)) (hf : fs[f]? = some fd)
    (hd : P.underlying fd.type = some d) (hag : aggB d = ag) (hn : ∃ inf, P.info? fd.type = some inf ∧ inf.size = n) (hx : opd x = some x') {i : Nat} {r : AV} {M' : List (Option Blk)} (hs : astep i st (.fld fd.offset n ag x') = some (r, M')) :
    Does P s0 S w0 D X H i st a w (do pure (Next.value (← Instr.field t (a.eval x) f))) r M' := by
  simp only [astep] at hs
  have h1 := h.ev hx
  generalize a.eval x = vx at h1 ⊢
  obtain ⟨inf, hinf, rfl⟩ := hn
  have hla := run_isAgg (P := P) (w := w) hd
  rw [hag] at hla
  split at hs
  · rename_i cs e
    rw [e] at h1
    cases h1 with
    | agg hv hC =>
      rename_i vs
      have hcs : Cs X s0 H cs vs.toList := ⟨by simpa using hv, fun j x v a b => hC j x v a (by rw [← Array.getElem?_toList]; exact b)⟩
      split at hs
      · rename_i hl
        split at hs
        · rename_i hag1
          rw [hag1] at hla
          injection hs with hs; injection hs with e3 e4; subst e3; subst e4
          refine .still h (run_v (v := .agg (vs.extract fd.offset (fd.offset + inf.size))) ?_) (.agg ?_ ?_)
          · simp [Instr.field, run_underlying ht, hf, part, hla, asAgg, sizeOf, typeInfo, hinf]
          · simp only [Array.size_extract, List.length_take, List.length_drop]; omega
          · intro j x v hx hv'
            refine ((hcs.drop fd.offset).take inf.size).at_ j x v hx ?_
            have := hx
            rw [List.getElem?_take] at this
            split at this
            · rename_i hj
              rw [List.getElem?_take, if_pos hj, List.getElem?_drop, Array.getElem?_toList]
              rw [Array.getElem?_extract] at hv'
              split at hv'
              · exact hv'
              · cases hv'
            · cases this
        · rename_i hag1
          rw [show ag = false from by simpa using hag1] at hla
          split at hs
          · cases e1 : cs[fd.offset]? with
            | none => rw [e1] at hs; cases hs
            | some c =>
              rw [e1] at hs
              injection hs with hs; injection hs with e3 e4; subst e3; subst e4
              have hlt : fd.offset < vs.size := by rw [hv]; exact (List.getElem?_eq_some_iff.1 e1).1
              have hgv : vs[fd.offset]? = some vs[fd.offset] := Array.getElem?_eq_getElem hlt
              refine .still h (run_v (v := vs[fd.offset]) ?_) (hC _ c _ e1 hgv)
              simp [Instr.field, run_underlying ht, hf, part, hla, asAgg, hgv]
          · cases hs
      · cases hs
  · cases hs

theorem snd_ext (h : Sim s0 S w0 D X H st a w) {x : Operand} {x' : Opd} {j : Nat} (hx : opd x = some x') {i : Nat} {r : AV} {M' : List (Option Blk)} (hs : astep i st (.ext j x') = some (r, M')) :
    Does P s0 S w0 D X H i st a w (do pure (Next.value (← Instr.extract (a.eval x) j))) r M' := by
  simp only [astep] at hs
  have h1 := h.ev hx
  generalize a.eval x = vx at h1 ⊢
  split at hs
  · rename_i vs e
    rw [e] at h1
    cases h1 with
    | tup hv hC =>
      rename_i us
      cases e1 : vs[j]? with
      | none => rw [e1] at hs; cases hs
      | some c =>
        rw [e1] at hs
        injection hs with hs; injection hs with e3 e4; subst e3; subst e4
        have hlt : j < us.size := by rw [hv]; exact (List.getElem?_eq_some_iff.1 e1).1
        have hgv : us[j]? = some us[j] := Array.getElem?_eq_getElem hlt
        exact .still h (run_v (v := us[j]) (by simp [Instr.extract, hgv])) (hC j c _ e1 hgv)
  · cases hs

/-- A new block of cells. -/
theorem Sim.newBox (h : Sim s0 S w0 D X H st a w) (hq : w0.q = false) {id i : Nat} (hi : ¬ D i) (hid : id < st.M.length) (t : TypeId) {cs : List AV} {vals : Array Value} (hcs : Cs X s0 H cs vals.toList) :
    H.le (H.upd id (st.g, i) (.pointer (some ⟨w.heap.size, 0, none⟩))) ∧ Sim s0 S w0 (fun j => D j ∨ j = i) X (H.upd id (st.g, i) (.pointer (some ⟨w.heap.size, 0, none⟩))) { st with M := st.M.set id (some (.box (st.g, i) t cs)) } a (w.alloc (.cells vals t)) := by
  have hle := Heads.upd_le (v := .pointer (some ⟨w.heap.size, 0, none⟩)) (h.gens id st.g i (.inr ⟨rfl, hi⟩))
  refine ⟨hle, h.fresh hi hid (q_false hq) (World.grownBy_alloc w _ none) (by simp) rfl (fun b hb => .inl (by simp [hblk] at hb; omega)) ?_⟩
  exact ⟨_, vals, Heads.upd_same .., heap_alloc_new w _, hcs.mono (Claims.le.refl X) (Nat.le_refl _) hle, .inl h.size, fun o => h.X_new (Nat.le_refl _) o⟩

theorem snd_box (h : Sim s0 S w0 D X H st a w) (hq : w0.q = false) {t : TypeId} {id n : Nat} {x : Operand} {x' : Opd} (hx : opd x = some x') {i : Nat} (hi : ¬ D i) {r : AV} {M' : List (Option Blk)} (hs : astep i st (.box id t n x') = some (r, M')) :
    Does P s0 S w0 D X H i st a w (do pure (Next.value (← Instr.box t (a.eval x)))) r M' := by
  simp only [astep] at hs
  have h1 := h.ev hx
  generalize a.eval x = vx at h1 ⊢
  split at hs
  · rename_i hc
    obtain ⟨c1, c2, c3⟩ := hc
    injection hs with hs; injection hs with e3 e4; subst e3; subst e4
    obtain ⟨d1, _⟩ := h1.cells c2
    obtain ⟨g1, g2⟩ := h.newBox hq hi c1 t (vals := vx.cells) d1
    exact ⟨_, _, _, .inl (run_v (by simp [Instr.box, newVar, newRow])), g1, g2, .ptr (Heads.upd_same ..) rfl⟩
  · cases hs

theorem snd_alc (h : Sim s0 S w0 D X H st a w) (hq : w0.q = false) {t : TypeId} {inf : TypeInfo} {z : Value} {id : Nat} (hinf : P.info? t = some inf) (hz : inf.zero = some z) {i : Nat} (hi : ¬ D i) {r : AV} {M' : List (Option Blk)}
    (hs : astep i st (.alc id t z.cells.toList) = some (r, M')) : Does P s0 S w0 D X H i st a w (do pure (Next.value (← Instr.alloc t true (.tuple #[])))) r M' := by
  simp only [astep] at hs
  split at hs
  · rename_i c1
    injection hs with hs; injection hs with e3 e4; subst e3; subst e4
    obtain ⟨g1, g2⟩ := h.newBox hq hi c1 t (vals := z.cells) (Cs.lits X s0 H z.cells.toList)
    exact ⟨_, _, _, .inl (run_v (by simp [Instr.alloc, zeroValue, typeInfo, hinf, hz, newVar, newRow])), g1, g2, .ptr (Heads.upd_same ..) rfl⟩
  · cases hs

theorem snd_mkm (h : Sim s0 S w0 D X H st a w) (hq : w0.q = false) {t kt vt : TypeId} {id : Nat} {i : Nat} (hi : ¬ D i) {r : AV} {M' : List (Option Blk)} (hs : astep i st (.mkm id kt vt) = some (r, M')) :
    Does P s0 S w0 D X H i st a w (do pure (Next.value (← Instr.makeMap t none))) r M' := by
  simp only [astep] at hs
  split at hs
  · rename_i c1
    injection hs with hs; injection hs with e3 e4; subst e3; subst e4
    have hle := Heads.upd_le (v := .map (some w.heap.size)) (h.gens id st.g i (.inr ⟨rfl, hi⟩))
    refine ⟨_, w.alloc (.map #[] 0), _, .inl (run_v (run_makeMap t w)), hle, h.fresh hi c1 (q_false hq) (World.grownBy_alloc w _ none) (by simp) rfl (fun b hb => .inl (by simp [hblk] at hb; omega)) ?_, .mapr (Heads.upd_same ..) rfl⟩
    exact ⟨_, #[], 0, Heads.upd_same .., heap_alloc_new w _, rfl, Cs.nil, .inl h.size, fun o => h.X_new (Nat.le_refl _) o⟩
  · cases hs

theorem snd_ifc (h : Sim s0 S w0 D X H st a w) {t : TypeId} {x : Operand} {x' : Opd} (ht : P.concrete t = true) (hx : opd x = some x') {i : Nat} {r : AV} {M' : List (Option Blk)} (hs : astep i st (.ifc t x') = some (r, M')) :
    Does P s0 S w0 D X H i st a w (do pure (Next.value (← Instr.makeInterface t (a.eval x)))) r M' := by
  simp only [astep] at hs
  injection hs with hs; injection hs with e3 e4; subst e3; subst e4
  exact .still h (run_v (run_makeInterface (P := P) w t (a.eval x) ht)) (.ifc (h.ev hx))

theorem snd_clo (h : Sim s0 S w0 D X H st a w) {f : FuncId} {xs : Array Operand} {xs' : List Opd} (hl : xs.toList.length = xs'.length) (hx : ∀ (j : Nat) (x : Operand) (x' : Opd), xs.toList[j]? = some x → xs'[j]? = some x' → opd x = some x') {i : Nat} {r : AV} {M' : List (Option Blk)}
    (hs : astep i st (.clo f xs') = some (r, M')) : Does P s0 S w0 D X H i st a w (do pure (Next.value (← Instr.makeFunc (.func f) (#[].map a.eval) (xs.map a.eval)))) r M' := by
  simp only [astep] at hs
  injection hs with hs; injection hs with e3 e4; subst e3; subst e4
  refine .still h (run_v (v := .func (.func f) #[] (xs.map a.eval)) (by simp [Instr.makeFunc])) (.clo (by simpa using hl) ?_)
  intro j x v hx1 hv
  rw [List.getElem?_map] at hx1
  rw [Array.getElem?_map] at hv
  cases e1 : xs'[j]? with
  | none => rw [e1] at hx1; cases hx1
  | some x1 =>
    cases e2 : xs[j]? with
    | none => rw [e2] at hv; cases hv
    | some y1 =>
      rw [e1] at hx1; rw [e2] at hv
      injection hx1 with hx1; injection hv with hv; subst hx1; subst hv
      exact h.ev (hx j y1 x1 (by rw [Array.getElem?_toList]; exact e2) e1)
end
end Go.Proofs.YtbpajecjaoefaaaGreat.V

/- The abstract machine: each operation is what the model does (6): maps, and lengths of maps. -/
namespace Go.Proofs.YtbpajecjaoefaaaGreat.V
open Go Go.RowKit

section
variable {P : Program} {s0 : Nat} {S : Nat → Nat → Prop} {w0 : Base} {D : Nat → Prop} {X : Claims} {H : Heads} {st : St} {a : Act} {w : World}

theorem sameNow_eq {kd : TypeDesc} {k k' : Value} (h : Instr.sameNow kd k k' = some true) : k' = k := by
  unfold Instr.sameNow at h
  split at h
  · split at h
    · rename_i e; subst e; injection h with h; have := LawfulBEq.eq_of_beq h; subst this; rfl
    · cases h
  · injection h with h
    have := (MapKept.bytes_beq _ _).1 h
    subst this; rfl
  · injection h with h
    have := eq_of_beq h
    subst this; rfl
  · cases h
theorem keyOK_is {kd : TypeDesc} {k : Value} (h : keyOK kd k = true) : MapKept.IsKey kd k := by
  unfold keyOK at h
  split at h <;> simp_all [MapKept.IsKey]

theorem findNow_of (kd : TypeDesc) (k : Value) : ∀ (es : List (Value × AV)) (ens : List MapEntry) (n : Nat) (r : Option AV), ens.map (·.key) = es.map (·.1) → mfindA kd k es = some r →
    (r = none ∧ Instr.findNow kd k ens n = some none) ∨ ∃ j e x, r = some x ∧ Instr.findNow kd k ens n = some (some (n + j, e.val)) ∧ ens[j]? = some e ∧ (es.map (·.2))[j]? = some x ∧ e.key = k
  | [], ens, n, r, hk, h => by
    have : ens = [] := List.eq_nil_of_length_eq_zero (by simpa using congrArg List.length hk)
    subst this
    simp only [mfindA, Option.some.injEq] at h; subst h
    exact .inl ⟨rfl, rfl⟩
  | p :: es, [], n, r, hk, h => by simp at hk
  | p :: es, e :: ens, n, r, hk, h => by
    simp only [List.map_cons, List.cons.injEq] at hk
    obtain ⟨hk1, hk2⟩ := hk
    simp only [mfindA] at h
    simp only [Instr.findNow, hk1]
    split at h
    · rename_i hs
      injection h with h; subst h
      exact .inr ⟨0, e, p.2, rfl, by simp [hs], rfl, rfl, by rw [hk1]; exact sameNow_eq hs⟩
    · rename_i hs
      rcases findNow_of kd k es ens (n + 1) r hk2 h with ⟨h1, h2⟩ | ⟨j, e', x, h1, h2, h3, h4, h5⟩
      · exact .inl ⟨h1, by simp [hs, h2]⟩
      · exact .inr ⟨j + 1, e', x, h1, by simp [hs, h2]; omega, by simpa using h3, by simpa using h4, h5⟩
    · cases h

theorem Sim.mapAt (h : Sim s0 S w0 D X H st a w) {id : Nat} {g g' : Gen} {kt vt : TypeId} {es : List (Value × AV)} (hb : st.blk id g = some (.mp g' kt vt es)) :
    g' = g ∧ st.M[id]? = some (some (.mp g kt vt es)) ∧ ∃ b ens clock, H id g = some (.map (some b)) ∧ w.heap[b]? = some (.map ens clock) ∧ ens.toList.map (·.key) = es.map (·.1) ∧ Cs X s0 H (es.map (·.2)) (ens.toList.map (·.val)) ∧
      (s0 ≤ b ∨ S id b) ∧ ∀ o, X b o = none := by
  obtain ⟨h1, h2⟩ := St.blk_some hb
  simp only [Blk.g] at h2; subst h2
  exact ⟨rfl, h1, h.blks id _ h1⟩

theorem snd_lkp (h : Sim s0 S w0 D X H st a w) {mt kt vt : TypeId} {kd : TypeDesc} {inf : TypeInfo} {z : Value} {ok : Bool} {m k : Operand} {m' k' : Opd} (hm : P.underlying mt = some (.map kt vt)) (hkd : P.underlying kt = some kd) (hinf : P.info? vt = some inf) (hz : inf.zero = some z)
    (hx : opd m = some m') (hk : opd k = some k') {i : Nat} {r : AV} {M' : List (Option Blk)} (hs : astep i st (.lkp ok kd z m' k') = some (r, M')) :
    Does P s0 S w0 D X H i st a w (do pure (Next.value (← Instr.lookup mt (a.eval m) (a.eval k) ok))) r M' := by
  simp only [astep] at hs
  have h1 := h.ev hx
  have h2 := h.ev hk
  generalize a.eval m = vm at h1 ⊢
  generalize a.eval k = vk at h2 ⊢
  split at hs
  · rename_i id g kv e1 e2
    rw [e1] at h1; rw [e2] at h2
    obtain rfl : kv = vk := h2.lit'.symm
    split at hs
    · rename_i g0 kt0 vt0 es hb
      split at hs
      · rename_i hko
        obtain ⟨_, _, b, ens, clock, a1, a2, a3, a4, _⟩ := h.mapAt hb
        cases h1 with
        | mapr b1 _ =>
          rw [a1] at b1; injection b1 with b1; subst b1
          cases hf : mfindA kd kv es with
          | none => rw [hf] at hs; cases hs
          | some q =>
            rw [hf] at hs
            injection hs with hs; injection hs with e3 e4; subst e3; subst e4
            have hzv : (zeroValue vt).run P w = .ok z w := by simp [zeroValue, typeInfo, hinf, hz]
            have hck := MapKept.run_checkKey (P := P) (w := w) hkd (keyOK_is hko) ens.isEmpty 9999
            rcases findNow_of kd kv es ens.toList 0 q a3 hf with ⟨rfl, h6⟩ | ⟨j, e, x, rfl, h6, h7, h8, h9⟩
            · have hfk := MapKept.run_findKey (P := P) (w := w) hkd h6
              have hrun : (Instr.lookup mt (.map (some b)) kv ok).run P w = .ok (if ok then .tuple #[z, .bool false] else z) w := by
                simp only [Instr.lookup, Sem.run_bind, run_underlying hm, Result.andThen_ok, MapKept.run_getObj_map a2, Sem.run_pure, hck, hfk, hzv]
              refine .still h (run_v hrun) ?_
              cases ok
              · exact C.litOf z
              · refine .tup rfl fun j x v hx hv => ?_
                match j with
                | 0 => simp at hx hv; subst hx; subst hv; exact C.litOf z
                | 1 => simp at hx hv; subst hx; subst hv; exact .lit _
                | j + 2 => simp at hx
            · have hfk := MapKept.run_findKey (P := P) (w := w) hkd h6
              have hrun : (Instr.lookup mt (.map (some b)) kv ok).run P w = .ok (if ok then .tuple #[e.val, .bool true] else e.val) w := by
                simp only [Instr.lookup, Sem.run_bind, run_underlying hm, Result.andThen_ok, MapKept.run_getObj_map a2, Sem.run_pure, hck, hfk]
              have hC : C X s0 H x e.val := a4.at_ j x e.val h8 (by rw [List.getElem?_map, h7]; rfl)
              refine .still h (run_v hrun) ?_
              cases ok
              · exact hC
              · refine .tup rfl fun j x' v hx hv => ?_
                match j with
                | 0 => simp at hx hv; subst hx; subst hv; exact hC
                | 1 => simp at hx hv; subst hx; subst hv; exact .lit _
                | j + 2 => simp at hx
      · cases hs
    · cases hs
  · cases hs

theorem msetA_of (kd : TypeDesc) (k : Value) (v : AV) : ∀ (es es' : List (Value × AV)), msetA kd k v es = some es' →
    (mfindA kd k es = some none ∧ es' = es ++ [(k, v)]) ∨ ∃ j x, mfindA kd k es = some (some x) ∧ (es.map (·.2))[j]? = some x ∧ (∀ (ens : List MapEntry) (n : Nat), ens.map (·.key) = es.map (·.1) → ∃ e, Instr.findNow kd k ens n = some (some (n + j, e.val)) ∧ ens[j]? = some e ∧ e.key = k) ∧ es' = es.set j (k, v)
  | [], es', h => by
    simp only [msetA, Option.some.injEq] at h; subst h
    exact .inl ⟨rfl, rfl⟩
  | p :: es, es', h => by
    simp only [msetA] at h
    split at h
    · rename_i hs
      injection h with h; subst h
      refine .inr ⟨0, p.2, by simp [mfindA, hs], rfl, fun ens n hk => ?_, rfl⟩
      cases ens with
      | nil => simp at hk
      | cons e ens =>
        simp only [List.map_cons, List.cons.injEq] at hk
        exact ⟨e, by simp [Instr.findNow, hk.1, hs], rfl, by rw [hk.1]; exact sameNow_eq hs⟩
    · rename_i hs
      cases hr : msetA kd k v es with
      | none => rw [hr] at h; cases h
      | some es2 =>
        rw [hr] at h
        injection h with h; subst h
        rcases msetA_of kd k v es es2 hr with ⟨h1, rfl⟩ | ⟨j, x, h1, h2, h3, rfl⟩
        · exact .inl ⟨by simp [mfindA, hs, h1], rfl⟩
        · refine .inr ⟨j + 1, x, by simp [mfindA, hs, h1], by simpa using h2, fun ens n hk => ?_, rfl⟩
          cases ens with
          | nil => simp at hk
          | cons e ens =>
            simp only [List.map_cons, List.cons.injEq] at hk
            obtain ⟨e', f1, f2, f3⟩ := h3 ens (n + 1) hk.2
            exact ⟨e', by simp [Instr.findNow, hk.1, hs, f1]; omega, by simpa using f2, f3⟩
    · cases h

theorem snd_mset (h : Sim s0 S w0 D X H st a w) (hq : w0.q = false) {mt kt vt : TypeId} {kd : TypeDesc} {m k v : Operand} {m' k' v' : Opd} (hm : P.underlying mt = some (.map kt vt)) (hkd : P.underlying kt = some kd) (hx : opd m = some m') (hk : opd k = some k') (hv : opd v = some v')
    {i : Nat} {r : AV} {M' : List (Option Blk)} (hs : astep i st (.mset kd m' k' v') = some (r, M')) : Does P s0 S w0 D X H i st a w (do Instr.mapUpdate mt (a.eval m) (a.eval k) (a.eval v); pure Next.skip) r M' := by
  simp only [astep] at hs
  have h1 := h.ev hx
  have h2 := h.ev hk
  have h3 := h.ev hv
  generalize a.eval m = vm at h1 ⊢
  generalize a.eval k = vk at h2 ⊢
  generalize a.eval v = vv at h3 ⊢
  split at hs
  · rename_i id g kv e1 e2
    rw [e1] at h1; rw [e2] at h2
    obtain rfl : kv = vk := h2.lit'.symm
    split at hs
    · rename_i g0 kt0 vt0 es hb
      split at hs
      · rename_i hko
        obtain ⟨rfl, hM, b, ens, clock, a1, a2, a3, a4, a5, a6⟩ := h.mapAt hb
        cases h1 with
        | mapr b1 _ =>
          rw [a1] at b1; injection b1 with b1; subst b1
          cases hf : msetA kd kv (st.ev v') es with
          | none => rw [hf] at hs; cases hs
          | some es' =>
            rw [hf] at hs
            injection hs with hs; injection hs with e3 e4; subst e3; subst e4
            have hck := MapKept.run_checkKey (P := P) (w := w) hkd (keyOK_is hko) false 9999
            have hset : ∀ o, w.grownBy { w with heap := w.heap.setIfInBounds b o } (some b) := fun o =>
              ⟨rfl, rfl, rfl, by simp, fun j _ hj => (MapKept.heap_set (w := w) (o' := o) a2).2 j (fun e => hj (by simp [e]))⟩
            rcases msetA_of kd kv (st.ev v') es es' hf with ⟨g1, rfl⟩ | ⟨j, x, g1, g2, g3, rfl⟩
            · rcases findNow_of kd kv es ens.toList 0 none a3 g1 with ⟨_, h6⟩ | ⟨j, e, x, hq, _⟩
              · have hfk := MapKept.run_findKey (P := P) (w := w) hkd h6
                have hrun : (Instr.mapUpdate mt (.map (some b)) kv vv).run P w = .ok () { w with heap := w.heap.setIfInBounds b (.map (ens.push { key := kv, val := vv, born := clock }) (clock + 1)) } := by
                  simp only [Instr.mapUpdate, Sem.run_bind, run_underlying hm, Result.andThen_ok, MapKept.run_getObj_map a2, hck, hfk, MapKept.run_setObj_map _ a2]
                refine ⟨undef, _, H, .inr ⟨run_u hrun, rfl⟩, Heads.le.refl H, ?_, .junk _⟩
                refine (h.same (B' := .mp g0 kt0 vt0 (es ++ [(kv, st.ev v')])) hM a1 (q_false hq) (hset _) rfl ?_).done fun _ => .inl
                refine ⟨b, _, _, a1, (MapKept.heap_set a2).1, by simp [a3], ?_, a5, a6⟩
                rw [Array.toList_push, List.map_append, List.map_append]
                exact a4.append (Cs.cons h3 Cs.nil)
              · cases hq
            · obtain ⟨e, f1, f2, f3⟩ := g3 ens.toList 0 a3
              have hfk := MapKept.run_findKey (P := P) (w := w) hkd f1
              have hej : ens[0 + j]? = some e := by rw [Nat.zero_add, ← Array.getElem?_toList]; exact f2
              have hst := MapKept.run_keyThatStays (P := P) (w := w) (keyOK_is hko)
              have hrun : (Instr.mapUpdate mt (.map (some b)) kv vv).run P w = .ok () { w with heap := w.heap.setIfInBounds b (.map (ens.modify (0 + j) fun e => { e with key := kv, val := vv }) clock) } := by
                simp only [Instr.mapUpdate, Sem.run_bind, run_underlying hm, Result.andThen_ok, MapKept.run_getObj_map a2, hck, hfk, hej, Option.map_some, Option.getD_some, f3, hst, MapKept.run_setObj_map _ a2]
              have hmod : (ens.modify (0 + j) fun e => { e with key := kv, val := vv }).toList = ens.toList.set j { e with key := kv, val := vv } := by
                rw [Nat.zero_add, Array.toList_modify]
                refine List.ext_getElem? fun q => ?_
                rw [List.getElem?_modify, List.getElem?_set]
                by_cases hq : j = q
                · subst hq
                  have hlt := (List.getElem?_eq_some_iff.1 f2).1
                  rw [f2]; simp only [if_true, Option.map_eq_map, Option.map_some, if_pos hlt]
                · simp [hq]
              refine ⟨undef, _, H, .inr ⟨run_u hrun, rfl⟩, Heads.le.refl H, ?_, .junk _⟩
              refine (h.same (B' := .mp g0 kt0 vt0 (es.set j (kv, st.ev v'))) hM a1 (q_false hq) (hset _) rfl ?_).done fun _ => .inl
              refine ⟨b, _, _, a1, (MapKept.heap_set a2).1, ?_, ?_, a5, a6⟩
              · rw [hmod, List.map_set, List.map_set, a3]
              · rw [hmod, List.map_set, List.map_set]
                exact a4.set h3 j
      · cases hs
    · cases hs
  · cases hs

theorem snd_lenm (h : Sim s0 S w0 D X H st a w) {t ty kt vt : TypeId} {x : Operand} {x' : Opd} (ht : P.underlying t = some (.map kt vt)) (hx : opd x = some x') {i : Nat} {r : AV} {M' : List (Option Blk)}
    (hs : astep i st (.lenm x') = some (r, M')) : Does P s0 S w0 D X H i st a w (do pure (Next.value (← Builtin.len_ #[t] ty #[a.eval x]))) r M' := by
  simp only [astep] at hs
  have h1 := h.ev hx
  generalize a.eval x = vx at h1 ⊢
  split at hs
  · rename_i id g e
    rw [e] at h1
    split at hs
    · rename_i g0 kt0 vt0 es hb
      injection hs with hs; injection hs with e3 e4; subst e3; subst e4
      obtain ⟨rfl, hM, b, ens, clock, a1, a2, a3, a4, a5, a6⟩ := h.mapAt hb
      cases h1 with
      | mapr b1 _ =>
        rw [a1] at b1; injection b1 with b1; subst b1
        have hl : ens.size = es.length := by simpa using congrArg List.length a3
        refine .still h (run_v ?_) (.lit _)
        simp [Builtin.len_, run_underlying ht, MapKept.run_getObj_map a2, hl, goInt]
    · cases hs
  · cases hs
end
end Go.Proofs.YtbpajecjaoefaaaGreat.V

/- The abstract machine: from the model's operations to its own. -/
namespace Go.Proofs.YtbpajecjaoefaaaGreat.V
open Go Go.RowKit

def elemInfo (P : Program) (t : TypeId) : Option (TypeId × TypeInfo × Value) :=
  match P.underlying t with
  | some (.slice e) => match P.info? e with
    | some inf => match inf.zero with
      | some z => if z.cells.size = inf.size then some (e, inf, z) else none
      | none => none
    | none => none
  | _ => none
theorem elemInfo_some {P : Program} {t e : TypeId} {inf : TypeInfo} {z : Value} (h : elemInfo P t = some (e, inf, z)) : P.underlying t = some (.slice e) ∧ P.info? e = some inf ∧ inf.zero = some z ∧ z.cells.size = inf.size := by
  unfold elemInfo at h
  split at h
  · rename_i e' h1
    split at h
    · rename_i inf' h2
      split at h
      · rename_i z' h3
        split at h
        · rename_i h4
          injection h with h; injection h with e1 h; injection h with e2 e3
          subst e1; subst e2; subst e3
          exact ⟨h1, h2, h3, h4⟩
        · cases h
      · cases h
    · cases h
  · cases h
def fieldInfo (P : Program) (t : TypeId) (f : Nat) : Option (Nat × Nat × Bool) :=
  match P.underlying t with
  | some (.struct fs) => match fs[f]? with
    | some fd => match P.info? fd.type, P.underlying fd.type with
      | some inf, some d => some (fd.offset, inf.size, aggB d)
      | _, _ => none
    | none => none
  | _ => none
theorem fieldInfo_some {P : Program} {t : TypeId} {f off n : Nat} {ag : Bool} (h : fieldInfo P t f = some (off, n, ag)) :
    ∃ fs fd inf d, P.underlying t = some (.struct fs) ∧ fs[f]? = some fd ∧ P.info? fd.type = some inf ∧ P.underlying fd.type = some d ∧ fd.offset = off ∧ inf.size = n ∧ aggB d = ag := by
  unfold fieldInfo at h
  split at h
  · rename_i fs h1
    split at h
    · rename_i fd h2
      split at h
      · rename_i inf d h3 h4
        injection h with h; injection h with e1 h; injection h with e2 e3
        exact ⟨fs, fd, inf, d, h1, h2, h3, h4, e1, e2, e3⟩
      · cases h
    · cases h
  · cases h

def opds (l : List Operand) : Option (List Opd) :=
  match l with
  | [] => some []
  | x :: xs => match opd x, opds xs with
    | some y, some ys => some (y :: ys)
    | _, _ => none
theorem opds_some : ∀ {l : List Operand} {l' : List Opd}, opds l = some l' → l.length = l'.length ∧ ∀ (j : Nat) (x : Operand) (x' : Opd), l[j]? = some x → l'[j]? = some x' → opd x = some x'
  | [], l', h => by simp only [opds, Option.some.injEq] at h; subst h; exact ⟨rfl, fun j x x' h => by simp at h⟩
  | x :: xs, l', h => by
    simp only [opds] at h
    split at h
    · rename_i y ys h1 h2
      injection h with h; subst h
      obtain ⟨i1, i2⟩ := opds_some h2
      refine ⟨by simp [i1], fun j x x' a b => ?_⟩
      cases j with
      | zero => simp at a b; subst a; subst b; exact h1
      | succ j => exact i2 j x x' (by simpa using a) (by simpa using b)
    · cases h
def opdo : Option Operand → Option (Option Opd)
  | none => some none
  | some x => (opd x).map some
theorem opdo_some {x : Option Operand} {x' : Option Opd} (h : opdo x = some x') : x' = none ∧ x = none ∨ ∃ y y', x' = some y' ∧ x = some y ∧ opd y = some y' := by
  cases x with
  | none => simp only [opdo, Option.some.injEq] at h; exact .inl ⟨h.symm, rfl⟩
  | some y =>
    simp only [opdo] at h
    cases e : opd y with
    | none => rw [e] at h; cases h
    | some y' => rw [e] at h; injection h with h; exact .inr ⟨y, y', h.symm, rfl, e⟩
/-- Parts of a literal, with what a function says of their places. -/
def partsOf {α : Type} (f : Nat → Option α) (l : List (Nat × Operand)) : Option (List (α × Opd)) :=
  match l with
  | [] => some []
  | p :: ps => match f p.1, opd p.2, partsOf f ps with
    | some q, some x, some ys => some ((q, x) :: ys)
    | _, _, _ => none
theorem partsOf_some {α : Type} {f : Nat → Option α} : ∀ {l : List (Nat × Operand)} {l' : List (α × Opd)}, partsOf f l = some l' → l.length = l'.length ∧ ∀ (j : Nat) (p : Nat × Operand) (q : α × Opd), l[j]? = some p → l'[j]? = some q → f p.1 = some q.1 ∧ opd p.2 = some q.2
  | [], l', h => by simp only [partsOf, Option.some.injEq] at h; subst h; exact ⟨rfl, fun j x x' h => by simp at h⟩
  | p :: ps, l', h => by
    simp only [partsOf] at h
    split at h
    · rename_i q x ys h1 h2 h3
      injection h with h; subst h
      obtain ⟨i1, i2⟩ := partsOf_some h3
      refine ⟨by simp [i1], fun j x x' a b => ?_⟩
      cases j with
      | zero => simp at a b; subst a; subst b; exact ⟨h1, h2⟩
      | succ j => exact i2 j x x' (by simpa using a) (by simpa using b)
    · cases h

def isNilSlice : Operand → Bool
  | .const (.slice none 0 0) => true
  | _ => false

/-- The operation of the abstract machine. -/
def comp (P : Program) (site : Option Nat) (ty : TypeId) : Op → Option AO
  | .move x | .assign x => if isNilSlice x then match site, elemInfo P ty with
      | some id, some (e, inf, _) => some (if id = 1000000 then .nilf true inf.size else if id = 1000001 then .nilf false inf.size else .nilr id e inf.size)
      | _, _ => (opd x).map .mov
    else (opd x).map .mov
  | .pick c x y => match opd c, opd x, opd y with | some c, some x, some y => some (.pick c x y) | _, _, _ => none
  | .binOp b t x y _ => match opd x, opd y with
    | some x, some y => match P.underlying t with
      | some .bool => match b with | .eql => some (.beq false x y) | .neq => some (.beq true x y) | _ => none
      | some (.struct fs) => if P.stoodInHeld t = false ∧ P.eqGuardType P.depth t = false then (match b, flatF P 0 fs.toList with | .eql, some ds => some (.aeq false ds x y) | .neq, some ds => some (.aeq true ds x y) | _, _ => none) else none
      | _ => some (.bin b x y)
    | _, _ => none
  | .unOp u _ x => (opd x).map (.un u)
  | .convert s d x => match P.underlying s, P.underlying d, opd x with
    | some _, some (.int k), some x => some (.conv k x)
    | some (.slice e), some .string, some x => match P.underlying e with | some (.int .u8) => some (.b2s x) | _ => none
    | _, _, _ => none
  | .makeInterface t x => if P.concrete t then (opd x).map (.ifc t) else none
  | .makeFunc (.func f) first caps => if first.isEmpty then (opds caps.toList).map (.clo f) else none
  | .makeMap t none => match site, P.underlying t with | some id, some (.map kt vt) => some (.mkm id kt vt) | _, _ => none
  | .makeSlice t l c => match site, elemInfo P t, opd l, opd c with | some id, some (e, inf, z), some l, some c => some (.mk id e inf.size inf.bytes z.cells.toList l c) | _, _, _, _ => none
  | .slice t x lo hi none => match P.underlying t, opd x, opdo lo, opdo hi with
    | some .string, some x, some lo, some hi => some (.sls x lo hi)
    | some (.slice e), some x, some lo, some hi => match P.info? e with | some inf => some (.slc inf.size x lo hi) | none => none
    | _, _, _, _ => none
  | .fieldAddr t x f => match fieldInfo P t f, opd x with | some (off, n, _), some x => if 0 < n then some (.fldA off n x) else none | _, _ => none
  | .field t x f => match fieldInfo P t f, opd x with | some (off, n, ag), some x => some (.fld off n ag x) | _, _ => none
  | .indexAddr t x j => match elemInfo P t, opd x, opd j with | some (_, inf, _), some x, some j => some (.idxA inf.size x j) | _, _, _ => none
  | .index t x j => match P.underlying t, opd x, opd j with | some .string, some x, some j => some (.idxS x j) | _, _, _ => none
  | .lookup t m k ok => match P.underlying t, opd m, opd k with
    | some (.map kt vt), some m, some k => match P.underlying kt, P.info? vt with
      | some kd, some inf => inf.zero.map fun z => .lkp ok kd z m k
      | _, _ => none
    | _, _, _ => none
  | .mapUpdate t m k v | .insert t m k v => match P.underlying t, opd m, opd k, opd v with
    | some (.map kt _), some m, some k, some v => (P.underlying kt).map fun kd => .mset kd m k v
    | _, _, _, _ => none
  | .load t x => match P.underlying t, P.info? t, opd x with | some d, some inf, some x => some (.load inf.size (aggB d) x) | _, _, _ => none
  | .store t x v => match P.info? t, opd x, opd v with | some inf, some x, some v => some (.store inf.size x v) | _, _, _ => none
  | .alloc t => match site, P.info? t with | some id, some inf => inf.zero.map fun z => .alc id t z.cells.toList | _, _ => none
  | .box t x => match site, P.info? t, opd x with | some id, some inf, some x => some (.box id t inf.size x) | _, _, _ => none
  | .build t parts => match P.underlying t, P.info? t with
    | some (.struct fs), some inf => match inf.zero, fs.toList.mapM (fun f => (P.info? f.type).map fun i => (f.offset, i.size)) with
      | some z, some places => (partsOf (places.toArray[·]?) parts.toList).map fun ps => .bld z.cells.toList (ps.map fun p => (p.1.1, p.1.2, p.2))
      | _, _ => none
    | _, _ => none
  | .buildSlice t len parts => match site, elemInfo P t, partsOf some parts.toList with | some id, some (e, inf, z), some ps => some (.sl id e inf.size len z.cells.toList ps) | _, _, _ => none
  | .extract x j => (opd x).map (.ext j)
  | .nilCheck x => (opd x).map .nck
  | .call { callee := .builtin .len, args, argTypes } => match args.toList, argTypes.toList with
    | [x], [t] => match P.underlying t, opd x with
      | some .string, some x => some (.lens x)
      | some (.slice _), some x => some (.len x)
      | some (.map _ _), some x => some (.lenm x)
      | _, _ => none
    | _, _ => none
  | .call { callee := .builtin .append, args, argTypes } => match args.toList, argTypes.toList with
    | [x, y], [t, t'] => if t = t' then match elemInfo P t, opd x, opd y with | some (e, inf, _), some x, some y => some (.app (site.getD 1000000) e inf.size inf.bytes x y) | _, _, _ => none else none
    | _, _ => none
  | .call { callee := .value (.func f), args, .. } => (opds args.toList).map (.call f)
  | _ => none
end Go.Proofs.YtbpajecjaoefaaaGreat.V

/- The abstract machine: an operation that was turned into its own does what that does. -/
namespace Go.Proofs.YtbpajecjaoefaaaGreat.V
open Go Go.RowKit

section
variable {P : Program} {s0 : Nat} {S : Nat → Nat → Prop} {w0 : Base} {D : Nat → Prop} {X : Claims} {H : Heads} {st : St} {a : Act} {w : World}

theorem isNilSlice_eq {x : Operand} (h : isNilSlice x = true) (a : Act) : a.eval x = .slice none 0 0 := by
  unfold isNilSlice at h
  split at h
  · rfl
  · cases h

theorem comp_move (h : Sim s0 S w0 D X H st a w) {site : Option Nat} {ty : TypeId} {x : Operand} {ao : AO}
    (hc : (if isNilSlice x then match site, elemInfo P ty with
      | some id, some (e, inf, _) => some (if id = 1000000 then AO.nilf true inf.size else if id = 1000001 then AO.nilf false inf.size else AO.nilr id e inf.size)
      | _, _ => (opd x).map .mov
    else (opd x).map .mov) = some ao) {i : Nat} (hi : ¬ D i) {r : AV} {M' : List (Option Blk)} (hs : astep i st ao = some (r, M')) : Does P s0 S w0 D X H i st a w (pure (.value (a.eval x))) r M' := by
  have hm : (opd x).map AO.mov = some ao → Does P s0 S w0 D X H i st a w (pure (.value (a.eval x))) r M' := by
    intro hc
    cases e : opd x with
    | none => rw [e] at hc; cases hc
    | some x' =>
      rw [e] at hc; injection hc with hc; subst hc
      simp only [astep] at hs
      injection hs with hs; injection hs with e3 e4; subst e3; subst e4
      exact snd_mov h e i
  split at hc
  · rename_i hn
    split at hc
    · injection hc with hc; subst hc
      rw [isNilSlice_eq hn]
      have hf : ∀ lab k, astep i st (.nilf lab k) = some (r, M') → Does P s0 S w0 D X H i st a w (pure (.value (.slice none 0 0))) r M' := by
        intro lab k hs
        simp only [astep] at hs
        injection hs with hs; injection hs with e3 e4; subst e3; subst e4
        exact .still h rfl .frz0
      split at hs
      · exact hf _ _ hs
      · split at hs
        · exact hf _ _ hs
        · exact snd_nilr h hi hs
    · exact hm hc
  · exact hm hc

theorem map_some {α β : Type} {x : Option α} {f : α → β} {y : β} (h : x.map f = some y) : ∃ z, x = some z ∧ f z = y := by
  cases x with
  | none => cases h
  | some z => exact ⟨z, rfl, by injection h⟩

def isCall : AO → Bool
  | .call .. => true
  | _ => false

set_option maxHeartbeats 4000000 in
theorem comp_sound (h : Sim s0 S w0 D X H st a w) {site : Option Nat} {o : Oper} {ao : AO} (hc : comp P site o.type o.op = some ao) (hq : quietAO ao = false → w0.q = false) (hcall : isCall ao = false) {i : Nat} (hi : ¬ D i) {r : AV} {M' : List (Option Blk)} (hs : astep i st ao = some (r, M')) :
    Does P s0 S w0 D X H i st a w (execOp a.eval o) r M' := by
  have goal : ∀ s : Sem Next, execOp a.eval o = s → Does P s0 S w0 D X H i st a w s r M' → Does P s0 S w0 D X H i st a w (execOp a.eval o) r M' := fun s e k => e ▸ k
  cases hop : o.op with
  | move x => rw [hop] at hc; exact goal _ (by simp only [execOp, hop] <;> rfl) (comp_move h hc hi hs)
  | assign x => rw [hop] at hc; exact goal _ (by simp only [execOp, hop] <;> rfl) (comp_move h hc hi hs)
  | pick c x y =>
    rw [hop] at hc; simp only [comp] at hc
    split at hc
    · rename_i h1 h2 h3; injection hc with hc; subst hc
      exact goal _ (by simp only [execOp, hop] <;> rfl) (snd_pick h h1 h2 h3 hs)
    · cases hc
  | binOp b t x y yt =>
    rw [hop] at hc; simp only [comp] at hc
    split at hc
    · rename_i h1 h2
      split at hc
      · rename_i h3
        split at hc
        · injection hc with hc; subst hc
          exact goal _ (by simp only [execOp, hop] <;> rfl) (snd_beq (neg := false) h h3 h1 h2 hs)
        · injection hc with hc; subst hc
          exact goal _ (by simp only [execOp, hop] <;> rfl) (snd_beq (neg := true) h h3 h1 h2 hs)
        · cases hc
      · rename_i fs h3
        split at hc
        · rename_i h4
          split at hc
          · rename_i ds h5; injection hc with hc; subst hc
            exact goal _ (by simp only [execOp, hop] <;> rfl) (snd_aeq (neg := false) h h3 h4.1 h4.2 h5 h1 h2 hs)
          · rename_i ds h5; injection hc with hc; subst hc
            exact goal _ (by simp only [execOp, hop] <;> rfl) (snd_aeq (neg := true) h h3 h4.1 h4.2 h5 h1 h2 hs)
          · cases hc
        · cases hc
      · injection hc with hc; subst hc
        exact goal _ (by simp only [execOp, hop] <;> rfl) (snd_bin h h1 h2 hs)
    · cases hc
  | unOp u t x =>
    rw [hop] at hc; simp only [comp] at hc
    obtain ⟨z, h1, rfl⟩ := map_some hc
    exact goal _ (by simp only [execOp, hop] <;> rfl) (snd_un h h1 hs)
  | convert s d x =>
    rw [hop] at hc; simp only [comp] at hc
    split at hc
    · rename_i h1 h2 h3; injection hc with hc; subst hc
      exact goal _ (by simp only [execOp, hop] <;> rfl) (snd_conv h (by rw [h1]; rfl) h2 h3 hs)
    · rename_i e h1 h2 h3
      split at hc
      · rename_i h4; injection hc with hc; subst hc
        exact goal _ (by simp only [execOp, hop] <;> rfl) (snd_b2s h h1 h4 h2 h3 hs)
      · cases hc
    · cases hc
  | makeInterface t x =>
    rw [hop] at hc; simp only [comp] at hc
    split at hc
    · rename_i ht
      obtain ⟨z, h1, rfl⟩ := map_some hc
      exact goal _ (by simp only [execOp, hop] <;> rfl) (snd_ifc h ht h1 hs)
    · cases hc
  | makeFunc fn first caps =>
    rw [hop] at hc
    cases fn <;> simp only [comp] at hc <;> try (cases hc; done)
    split at hc
    · rename_i f hf
      obtain ⟨z, h1, rfl⟩ := map_some hc
      have : first = #[] := by simpa using hf
      subst this
      obtain ⟨i1, i2⟩ := opds_some h1
      exact goal _ (by simp only [execOp, hop] <;> rfl) (snd_clo h i1 i2 hs)
    · cases hc
  | makeMap t r' =>
    rw [hop] at hc
    cases r' with
    | some y => simp only [comp] at hc; cases hc
    | none =>
      simp only [comp] at hc
      split at hc
      · injection hc with hc; subst hc
        exact goal _ (by simp only [execOp, hop] <;> rfl) (snd_mkm h (hq rfl) hi hs)
      · cases hc
  | makeSlice t l c =>
    rw [hop] at hc; simp only [comp] at hc
    split at hc
    · rename_i h1 h2 h3; injection hc with hc; subst hc
      obtain ⟨e1, e2, e3, e4⟩ := elemInfo_some h1
      exact goal _ (by simp only [execOp, hop] <;> rfl) (snd_mk h (hq rfl) e1 e2 e3 rfl rfl h2 h3 hi hs)
    · cases hc
  | slice t x lo hi' mx =>
    rw [hop] at hc
    cases mx with
    | some y => simp only [comp] at hc; cases hc
    | none =>
      simp only [comp] at hc
      split at hc
      · rename_i h1 h2 h3 h4; injection hc with hc; subst hc
        exact goal _ (by simp only [execOp, hop] <;> rfl) (snd_sls h h1 h2 (opdo_some h3) (opdo_some h4) hs)
      · rename_i h1 h2 h3 h4
        split at hc
        · rename_i h5; injection hc with hc; subst hc
          exact goal _ (by simp only [execOp, hop] <;> rfl) (snd_slc h h1 ⟨_, h5, rfl⟩ h2 (opdo_some h3) (opdo_some h4) hs)
        · cases hc
      · cases hc
  | fieldAddr t x f =>
    rw [hop] at hc; simp only [comp] at hc
    split at hc
    · rename_i h1 h2
      split at hc
      · rename_i h3; injection hc with hc; subst hc
        obtain ⟨fs, fd, inf, d, e1, e2, e3, e4, rfl, rfl, _⟩ := fieldInfo_some h1
        exact goal _ (by simp only [execOp, hop] <;> rfl) (snd_fldA h e1 e2 ⟨inf, e3, rfl⟩ h3 h2 hs)
      · cases hc
    · cases hc
  | field t x f =>
    rw [hop] at hc; simp only [comp] at hc
    split at hc
    · rename_i h1 h2; injection hc with hc; subst hc
      obtain ⟨fs, fd, inf, d, e1, e2, e3, e4, rfl, rfl, rfl⟩ := fieldInfo_some h1
      exact goal _ (by simp only [execOp, hop] <;> rfl) (snd_fld h e1 e2 e4 rfl ⟨inf, e3, rfl⟩ h2 hs)
    · cases hc
  | indexAddr t x j =>
    rw [hop] at hc; simp only [comp] at hc
    split at hc
    · rename_i h1 h2 h3; injection hc with hc; subst hc
      obtain ⟨e1, e2, e3, e4⟩ := elemInfo_some h1
      exact goal _ (by simp only [execOp, hop] <;> rfl) (snd_idxA h e1 ⟨_, e2, rfl⟩ h2 h3 hs)
    · cases hc
  | index t x j =>
    rw [hop] at hc; simp only [comp] at hc
    split at hc
    · rename_i h1 h2 h3; injection hc with hc; subst hc
      exact goal _ (by simp only [execOp, hop] <;> rfl) (snd_idxS h h1 h2 h3 hs)
    · cases hc
  | lookup t m k ok =>
    rw [hop] at hc; simp only [comp] at hc
    split at hc
    · rename_i h1 h2 h3
      split at hc
      · rename_i h4 h5
        obtain ⟨z, h6, rfl⟩ := map_some hc
        exact goal _ (by simp only [execOp, hop] <;> rfl) (snd_lkp h h1 h4 h5 h6 h2 h3 hs)
      · cases hc
    · cases hc
  | mapUpdate t m k v =>
    rw [hop] at hc; simp only [comp] at hc
    split at hc
    · rename_i h1 h2 h3 h4
      obtain ⟨kd, h5, rfl⟩ := map_some hc
      exact goal _ (by simp only [execOp, hop] <;> rfl) (snd_mset h (hq rfl) h1 h5 h2 h3 h4 hs)
    · cases hc
  | insert t m k v =>
    rw [hop] at hc; simp only [comp] at hc
    split at hc
    · rename_i h1 h2 h3 h4
      obtain ⟨kd, h5, rfl⟩ := map_some hc
      exact goal _ (by simp only [execOp, hop] <;> rfl) (snd_mset h (hq rfl) h1 h5 h2 h3 h4 hs)
    · cases hc
  | load t x =>
    rw [hop] at hc; simp only [comp] at hc
    split at hc
    · rename_i h1 h2 h3; injection hc with hc; subst hc
      exact goal _ (by simp only [execOp, hop] <;> rfl) (snd_load h h1 rfl ⟨_, h2, rfl⟩ h3 hs)
    · cases hc
  | store t x v =>
    rw [hop] at hc; simp only [comp] at hc
    split at hc
    · rename_i h1 h2 h3; injection hc with hc; subst hc
      exact goal _ (by simp only [execOp, hop] <;> rfl) (snd_store h (hq rfl) ⟨_, h1, rfl⟩ h2 h3 hs)
    · cases hc
  | alloc t =>
    rw [hop] at hc; simp only [comp] at hc
    split at hc
    · rename_i h1
      obtain ⟨z, h2, rfl⟩ := map_some hc
      exact goal _ (by simp only [execOp, hop] <;> rfl) (snd_alc h (hq rfl) h1 h2 hi hs)
    · cases hc
  | box t x =>
    rw [hop] at hc; simp only [comp] at hc
    split at hc
    · rename_i h1 h2; injection hc with hc; subst hc
      exact goal _ (by simp only [execOp, hop] <;> rfl) (snd_box h (hq rfl) h2 hi hs)
    · cases hc
  | build t parts =>
    rw [hop] at hc; simp only [comp] at hc
    split at hc
    · rename_i h1 h2
      split at hc
      · rename_i h3 h4
        obtain ⟨ps, h5, rfl⟩ := map_some hc
        obtain ⟨i1, i2⟩ := partsOf_some h5
        refine goal _ (by simp only [execOp, hop] <;> rfl) (snd_bld h h1 h2 h3 h4 (by simpa using i1) ?_ hs)
        intro j p q a b
        rw [List.getElem?_map] at b
        cases e : ps[j]? with
        | none => rw [e] at b; cases b
        | some q0 =>
          rw [e] at b; injection b with b; subst b
          exact i2 j p q0 a e
      · cases hc
    · cases hc
  | buildSlice t len parts =>
    rw [hop] at hc; simp only [comp] at hc
    split at hc
    · rename_i h1 h2; injection hc with hc; subst hc
      obtain ⟨e1, e2, e3, e4⟩ := elemInfo_some h1
      obtain ⟨i1, i2⟩ := partsOf_some h2
      refine goal _ (by simp only [execOp, hop] <;> rfl) (snd_sl h (hq rfl) e1 e2 e3 rfl e4 i1 ?_ hi hs)
      intro j p q a b
      obtain ⟨f1, f2⟩ := i2 j p q a b
      injection f1 with f1
      exact ⟨f1, f2⟩
    · cases hc
  | extract x j =>
    rw [hop] at hc; simp only [comp] at hc
    obtain ⟨z, h1, rfl⟩ := map_some hc
    exact goal _ (by simp only [execOp, hop] <;> rfl) (snd_ext h h1 hs)
  | nilCheck x =>
    rw [hop] at hc; simp only [comp] at hc
    obtain ⟨z, h1, rfl⟩ := map_some hc
    exact snd_nck h hop h1 hs
  | call c =>
    rw [hop] at hc
    obtain ⟨cal, args, tys⟩ := c
    cases cal with
    | value f =>
      cases f <;> simp only [comp] at hc <;> try (cases hc; done)
      obtain ⟨z, h1, rfl⟩ := map_some hc
      cases hcall
    | invoke => simp only [comp] at hc; cases hc
    | builtin b =>
      cases b <;> simp only [comp] at hc <;> try (cases hc; done)
      case len =>
        split at hc
        · rename_i x t e1 e2
          have ea : args = #[x] := by rw [← Array.toArray_toList (xs := args), e1]
          have et : tys = #[t] := by rw [← Array.toArray_toList (xs := tys), e2]
          subst ea; subst et
          have he : execOp a.eval o = (do pure (Next.value (← Builtin.len_ #[t] o.type #[a.eval x]))) := by
            simp [execOp, hop, resolve, invoke, builtin]
          split at hc
          · rename_i h1 h2; injection hc with hc; subst hc
            exact goal _ he (snd_lens h h1 h2 hs)
          · rename_i h1 h2; injection hc with hc; subst hc
            exact goal _ he (snd_len h h1 h2 hs)
          · rename_i h1 h2; injection hc with hc; subst hc
            exact goal _ he (snd_lenm h h1 h2 hs)
          · cases hc
        · cases hc
      case append =>
        split at hc
        · rename_i x y t t' e1 e2
          split at hc
          · rename_i et; subst et
            have ea : args = #[x, y] := by rw [← Array.toArray_toList (xs := args), e1]
            have et : tys = #[t, t] := by rw [← Array.toArray_toList (xs := tys), e2]
            subst ea; subst et
            split at hc
            · rename_i h1 h2 h3; injection hc with hc; subst hc
              obtain ⟨f1, f2, f3, f4⟩ := elemInfo_some h1
              have he : execOp a.eval o = (do pure (Next.value (← Builtin.append_ #[t, t] o.type #[a.eval x, a.eval y]))) := by
                simp [execOp, hop, resolve, invoke, builtin]
              exact goal _ he (snd_app h (hq rfl) f1 f2 f3 rfl rfl f4 h2 h3 hi hs)
            · cases hc
          · cases hc
        · cases hc
  | _ => rw [hop] at hc; simp only [comp] at hc; cases hc
end
end Go.Proofs.YtbpajecjaoefaaaGreat.V

/- The abstract machine: contracts of functions, and one operation as a step. -/
namespace Go.Proofs.YtbpajecjaoefaaaGreat.V
open Go Go.RowKit

/-- What is handed over: rows of the call's own as what nobody writes. O: may rows of the call's own be handed over; L: may the label be kept. -/
inductive Cv (st : St) (O L : Bool) : AV → AV → Prop
  | lit (v : Value) : Cv st O L (.lit v) (.lit v)
  | nil (lab : Bool) (k : Nat) : Cv st O L (.lit (.slice none 0 0)) (.frz (lab && L) k 0 [])
  | frz {lab lab' : Bool} {k n : Nat} {cs cs' : List AV} (hl : lab' = true → L = true ∧ lab = true) (hlen : cs'.length = cs.length) (h : ∀ (j : Nat) (x y : AV), cs[j]? = some x → cs'[j]? = some y → Cv st O L x y) : Cv st O L (.frz lab k n cs) (.frz lab' k n cs')
  | frz0 {lab lab' : Bool} {k k' : Nat} : Cv st O L (.frz lab k 0 []) (.frz lab' k' 0 [])
  | own {id : Nat} {g g' : Gen} {e : TypeId} {k n : Nat} {cs cs' : List AV} {lab : Bool} (hO : O = true) (hb : st.blk id g = some (.row g' e k n cs)) (hl : lab = true → L = true) (hlen : cs'.length = cs.length)
      (h : ∀ (j : Nat) (x y : AV), cs[j]? = some x → cs'[j]? = some y → Cv st O L x y) : Cv st O L (.own id g) (.frz lab k n cs')
  | own0 {id : Nat} {g g' : Gen} {e : TypeId} {k k' : Nat} {cs : List AV} {lab : Bool} (hO : O = true) (hb : st.blk id g = some (.row g' e k 0 cs)) : Cv st O L (.own id g) (.frz lab k' 0 [])
  | sub {id : Nat} {g g' : Gen} {e : TypeId} {k n off len : Nat} {cs cs' : List AV} {lab : Bool} (hO : O = true) (hb : st.blk id g = some (.row g' e k n cs)) (hle : off + len ≤ n) (hl : lab = true → L = true) (hlen : cs'.length = ((cs.drop (off * k)).take (len * k)).length)
      (h : ∀ (j : Nat) (x y : AV), ((cs.drop (off * k)).take (len * k))[j]? = some x → cs'[j]? = some y → Cv st O L x y) : Cv st O L (.sub id g k off len) (.frz lab k len cs')
  | agg {cs cs' : List AV} (hlen : cs'.length = cs.length) (h : ∀ (j : Nat) (x y : AV), cs[j]? = some x → cs'[j]? = some y → Cv st O L x y) : Cv st O L (.agg cs) (.agg cs')
  | tup {cs cs' : List AV} (hlen : cs'.length = cs.length) (h : ∀ (j : Nat) (x y : AV), cs[j]? = some x → cs'[j]? = some y → Cv st O L x y) : Cv st O L (.tup cs) (.tup cs')
  | ifc {t : Nat} {x y : AV} (h : Cv st O L x y) : Cv st O L (.ifc t x) (.ifc t y)

abbrev H0 : Heads := fun _ _ => none
/-- All that lies in a world, as claims; from a block on. -/
def allX (w : World) : Claims := fun b o => w.cell? ⟨b, o, none⟩
def newX (s : Nat) (w : World) : Claims := fun b o => if s ≤ b then w.cell? ⟨b, o, none⟩ else none
def orX (X Y : Claims) : Claims := fun b o => match X b o with | some v => some v | none => Y b o
theorem orX_left (X Y : Claims) : X.le (orX X Y) := fun b o v h => by simp [orX, h]

/-- A function's contract: it hands back r for these arguments, in new memory (or, where it leaks, in new memory and in what came in), and turns nothing that was there. -/
def Con (P : Program) (leak : Bool) (f : FuncId) (R : List AV → AV → Prop) (qt : Bool) : Prop :=
  ∀ (args : List AV) (r : AV), R args r → ∀ (X : Claims) (w : World) (vals : Array Value), (∀ b o v, X b o = some v → w.cell? ⟨b, o, none⟩ = some v) → Cs X w.heap.size H0 args vals.toList →
    Calls P f vals w fun e w' => ∃ v Y, e = .returned v ∧ (∀ b o u, Y b o = some u → w.heap.size ≤ b ∧ w'.cell? ⟨b, o, none⟩ = some u) ∧ C (if leak then orX X Y else Y) w.heap.size H0 r v ∧ Below w.heap.size w w' ∧ (qt = true → ∃ n, w' = w.drewN n)

/-- What is known of functions; of those that write what they are handed. -/
structure Ctx where
  fn : FuncId → Option (Bool × (List AV → AV → Prop))
  sp : FuncId → Option (Nat → St → List AV → AV → List (Option Blk) → Prop)
  qt : FuncId → Bool
instance : CoeFun Ctx (fun _ => FuncId → Option (Bool × (List AV → AV → Prop))) := ⟨Ctx.fn⟩
/-- A function that writes what it is handed, or hands over a row: what it does to a caller's state, at a place of a region. -/
def ConX (P : Program) (f : FuncId) (R : Nat → St → List AV → AV → List (Option Blk) → Prop) : Prop :=
  ∀ (i : Nat) (st : St) (xs : List AV) (r : AV) (M' : List (Option Blk)), R i st xs r M' → ∀ {s0 : Nat} {S : Nat → Nat → Prop} {w0 : Base} {D : Nat → Prop} {X : Claims} {H : Heads} {a : Act} {w : World} (vals : Array Value), w0.q = false → Sim s0 S w0 D X H st a w → ¬ D i → Cs X s0 H xs vals.toList →
    Calls P f vals w fun e w' => ∃ v X' H', e = .returned v ∧ Sim s0 S w0 (fun j => D j ∨ j = i) X' H' { st with M := M' } a w' ∧ C X' s0 H' r v
def CtxOK (P : Program) (Γ : Ctx) : Prop := (∀ f l R, Γ f = some (l, R) → Con P l f R (Γ.qt f)) ∧ ∀ f R, Γ.sp f = some R → ConX P f R ∧ Γ.qt f = false ∧ ∀ (vals : Array Value) (w : World), (callFunc f vals).run P w = .ok (.enter f vals) w

section
variable {P : Program} {s0 : Nat} {S : Nat → Nat → Prop} {w0 : Base} {D : Nat → Prop} {X X' : Claims} {H : Heads} {st : St} {a : Act} {w w' : World}

/-- What is handed over is what lies there. -/
theorem Cv.sound {O L : Bool} {x y : AV} {v : Value} (hS : Sim s0 S w0 D X H st a w) (hc : Cv st O L x y) : ∀ {v : Value} (hx : C X s0 H x v) {Z : Claims} {s1 : Nat} (hX : X.le Z) (hO : O = true → ∀ b o u, w.cell? ⟨b, o, none⟩ = some u → (∃ id, S id b) ∨ s0 ≤ b → Z b o = some u)
    (hL : L = true → s1 ≤ s0 ∧ ∀ id b, ¬ S id b), C Z s1 H0 y v := by
  induction hc with
  | lit u => intro v hx Z s1 hX hO hL; cases hx; exact .lit _
  | nil lab k => intro v hx Z s1 hX hO hL; cases hx; exact .frz0
  | frz hl hlen h ih =>
    intro v hx Z s1 hX hO hL
    rename_i lab lab' k n cs cs'
    cases hx with
    | frz0 =>
      have : cs' = [] := List.eq_nil_of_length_eq_zero (by simpa using hlen)
      subst this; exact .frz0
    | frz hl' h0 hn hc hv hx' hC =>
      refine .frz (fun e => Nat.le_trans (hL (hl e).1).1 (hl' (hl e).2)) h0 (by rw [hlen]; exact hn) hc (by rw [hlen]; exact hv) (fun j u hj => hX _ _ _ (hx' j u hj)) ?_
      intro j y u hy hu
      have hlt : j < cs.length := by rw [← hlen]; exact (List.getElem?_eq_some_iff.1 hy).1
      exact ih j _ y (List.getElem?_eq_getElem hlt) hy (hC j _ u (List.getElem?_eq_getElem hlt) hu) hX hO hL
  | frz0 => intro v hx Z s1 hX hO hL; cases hx with
    | frz0 => exact .frz0
    | frz _ h0 => omega
  | own hO' hb hl hlen h ih =>
    intro v hx Z s1 hX hO hL
    rename_i id g g' e k n cs cs' lab
    obtain ⟨rfl, hM, v0, xs, a1, a2, a3, a4⟩ := hS.rowAt hb
    obtain ⟨v1, xs1, q1, q2, q3, q4, q5⟩ := hS.blks id _ hM
    rw [a1] at q1; injection q1 with q1; subst q1
    cases hx with
    | own b1 b2 =>
      rw [a1] at b1; injection b1 with b1; subst b1
      rcases ownsRow_head a2 with ⟨rfl, rfl⟩ | ⟨b, cap, rfl, hcp⟩
      · have : cs' = [] := List.eq_nil_of_length_eq_zero (by rw [hlen, ← a3.len, a2.1]; simp)
        subst this; exact .frz0
      · by_cases hn : n = 0
        · subst hn
          have : cs' = [] := List.eq_nil_of_length_eq_zero (by rw [hlen, ← a3.len, a2.1]; simp)
          subst this; exact .frz0
        · refine .frz (vs := xs) (fun e => ?_) (by omega) (by rw [hlen, ← a3.len, a2.1]) hcp (by rw [hlen]; exact a3.len) ?_ ?_
          · obtain ⟨l1, l2⟩ := hL (hl e)
            have := (q5 b rfl).1.resolve_right (l2 id b)
            omega
          · intro j u hj
            have hlt := (List.getElem?_eq_some_iff.1 hj).1
            have hcell := a2.cellAt j (by have := a2.1; omega)
            rw [Nat.zero_add]
            refine hO hO' b j u (by rw [hcell]; exact hj) ?_
            rcases (q5 b rfl).1 with h1 | h1
            · exact .inr h1
            · exact .inl ⟨id, h1⟩
          · intro j y u hy hu
            have hlt : j < cs.length := by rw [← hlen]; exact (List.getElem?_eq_some_iff.1 hy).1
            exact ih j _ y (List.getElem?_eq_getElem hlt) hy (a3.at_ j _ u (List.getElem?_eq_getElem hlt) hu) hX hO hL
  | own0 hO' hb =>
    intro v hx Z s1 hX hO hL
    obtain ⟨rfl, hM, v0, xs, a1, a2, a3, a4⟩ := hS.rowAt hb
    cases hx with
    | own b1 b2 =>
      rw [a1] at b1; injection b1 with b1; subst b1
      rcases ownsRow_head a2 with ⟨rfl, _⟩ | ⟨b, cap, rfl, hcp⟩ <;> exact .frz0
  | sub hO' hb hle hl hlen h ih =>
    intro v hx Z s1 hX hO hL
    rename_i id g g' e k n off len cs cs' lab
    obtain ⟨rfl, hM, v0, xs, a1, a2, a3, a4⟩ := hS.rowAt hb
    obtain ⟨v1, xs1, q1, q2, q3, q4, q5⟩ := hS.blks id _ hM
    rw [a1] at q1; injection q1 with q1; subst q1
    cases hx with
    | sub b1 b2 b3 b4 =>
      rename_i b n2 cap
      rw [a1] at b1; injection b1 with b1; subst b1
      rcases ownsRow_head a2 with ⟨e8, _⟩ | ⟨b', cap', e8, hcp⟩
      · cases e8
      · injection e8 with e5 e6 e7
        injection e5 with e5; injection e5 with e5
        subst e6; subst e7
        have a3' := (a3.drop (off * k)).take (len * k)
        refine .frz (vs := (xs.drop (off * k)).take (len * k)) (fun e => ?_) b2 ?_ (by omega) (by rw [hlen]; exact a3'.len) ?_ ?_
        · obtain ⟨l1, l2⟩ := hL (hl e)
          have := (q5 b rfl).1.resolve_right (l2 id b)
          omega
        · rw [hlen, ← a3'.len, List.length_take, List.length_drop, a2.1, Nat.min_eq_left]
          rw [← Nat.sub_mul]
          exact Nat.mul_le_mul_right _ (by omega)
        · intro j u hj
          rw [List.getElem?_take] at hj
          split at hj
          · rw [List.getElem?_drop] at hj
            have hlt := (List.getElem?_eq_some_iff.1 hj).1
            have hcell := a2.cellAt (off * k + j) (by have := a2.1; omega)
            refine hO hO' b _ u (by rw [hcell]; exact hj) ?_
            rcases (q5 b rfl).1 with h1 | h1
            · exact .inr h1
            · exact .inl ⟨id, h1⟩
          · cases hj
        · intro j y u hy hu
          have hlt : j < ((cs.drop (off * k)).take (len * k)).length := by rw [← hlen]; exact (List.getElem?_eq_some_iff.1 hy).1
          exact ih j _ y (List.getElem?_eq_getElem hlt) hy (a3'.at_ j _ u (List.getElem?_eq_getElem hlt) hu) hX hO hL
  | agg hlen h ih =>
    intro v hx Z s1 hX hO hL
    rename_i cs cs'
    cases hx with
    | agg hv hC =>
      refine .agg (by rw [hlen]; exact hv) fun j y u hy hu => ?_
      have hlt : j < cs.length := by rw [← hlen]; exact (List.getElem?_eq_some_iff.1 hy).1
      exact ih j _ y (List.getElem?_eq_getElem hlt) hy (hC j _ u (List.getElem?_eq_getElem hlt) hu) hX hO hL
  | tup hlen h ih =>
    intro v hx Z s1 hX hO hL
    rename_i cs cs'
    cases hx with
    | tup hv hC =>
      refine .tup (by rw [hlen]; exact hv) fun j y u hy hu => ?_
      have hlt : j < cs.length := by rw [← hlen]; exact (List.getElem?_eq_some_iff.1 hy).1
      exact ih j _ y (List.getElem?_eq_getElem hlt) hy (hC j _ u (List.getElem?_eq_getElem hlt) hu) hX hO hL
  | ifc h ih =>
    intro v hx Z s1 hX hO hL
    cases hx with
    | ifc hx => exact .ifc (ih hx hX hO hL)

theorem H0_le : (H0).le H := fun _ _ _ h => by cases h

/-- A call that turns nothing that was there: the state behind it. -/
theorem Sim.called (h : Sim s0 S w0 D X H st a w) {Y : Claims} (hj : w0.q = true → ∃ n, w' = w.drewN n) (hB : Below w.heap.size w w') (hY : ∀ b o u, Y b o = some u → w.heap.size ≤ b ∧ w'.cell? ⟨b, o, none⟩ = some u) : Sim s0 S w0 D (orX X Y) H st a w' := by
  have hg : w.grownBy w' none := ⟨hB.os, hB.tape, hB.output, hB.size, fun k hk _ => hB.block k hk⟩
  refine { sz := h.sz, df := h.df, tm := fun j x hj => (h.tm j x hj).mono (orX_left X Y) (Nat.le_refl _) (Heads.le.refl H), claims := ?_, blks := ?_, inj := h.inj, s0_eq := h.s0_eq, x0 := ?_, size := Nat.le_trans h.size hB.size, os := hB.os.trans h.os, tape := hB.tape.trans h.tape, output := hB.output.trans h.output, old := h.old_grown hg (by simp), gens := h.gens, inv := fun e => by obtain ⟨n, hn⟩ := hj e; obtain ⟨m, hm⟩ := h.inv e; exact ⟨m + n, by rw [hn, hm]; simp only [World.drewN, Nat.add_assoc]⟩ }
  · intro b o v hv
    unfold orX at hv
    split at hv
    · rename_i u hu
      injection hv with hv; subst hv
      exact hg.cell (h.claims b o _ hu) (by simp)
    · exact (hY b o v hv).2
  rotate_left
  · intro b o v hv hb
    unfold orX at hv
    split at hv
    · rename_i u hu
      injection hv with hv; subst hv
      exact h.x0 b o _ hu hb
    · have := (hY b o v hv).1
      have := h.size
      omega
  · intro id B hM
    obtain ⟨u, hu, hub⟩ := (h.blks id B hM).head
    refine (h.blks id B hM).kept (orX_left X Y) (Heads.le.refl H) hg (by simp) ?_
    intro u' b hu' hb o
    obtain rfl : u = u' := by rw [hu] at hu'; injection hu'
    obtain ⟨h1, _, h3⟩ := hub b hb
    unfold orX
    rw [h3 o]
    simp only
    cases hYb : Y b o with
    | none => rfl
    | some v => have := (hY b o v hYb).1; omega

/-- May it be run where nothing is made or turned? -/
def quietC (Γ : Ctx) : AO → Bool
  | .call f _ => Γ.qt f
  | ao => quietAO ao
theorem quietC_op {Γ : Ctx} {ao : AO} (h : isCall ao = false) : quietC Γ ao = quietAO ao := by cases ao <;> first | rfl | cases h
structure COp where
  dst : Option Nat
  guard : Option (Nat × Bool)
  ao : AO

def upM (M : List (Option Blk)) : Option (Nat × Blk) → List (Option Blk)
  | none => M
  | some (id, B) => M.set id (some B)

/-- May it run: its guard's Bool. -/
def COp.on (c : COp) (st : St) (b : Bool) : Prop := match c.guard with
  | none => b = true
  | some (t, want) => ∃ y, st.tm[t]? = some (.lit (.bool y)) ∧ b = (y == want)

/-- What an operation does to a state: the value for its place, the block that it turns. -/
inductive Eff (Γ : Ctx) (i : Nat) (c : COp) (st : St) : AV → List (Option Blk) → Prop
  | off (h : c.on st false) : Eff Γ i c st .junk st.M
  | op {r : AV} {M' : List (Option Blk)} (h : c.on st true) (hc : isCall c.ao = false) (hs : astep i st c.ao = some (r, M')) : Eff Γ i c st r M'
  | call {f : Nat} {xs : List Opd} {l : Bool} {R : List AV → AV → Prop} {args : List AV} {r : AV} (h : c.on st true) (hc : c.ao = .call f xs) (hΓ : Γ f = some (l, R)) (hl : args.length = xs.length)
      (hcv : ∀ (j : Nat) (x : Opd) (y : AV), xs[j]? = some x → args[j]? = some y → Cv st (!l) false (st.ev x) y) (hR : R args r) : Eff Γ i c st r st.M

/-- The compiled operation is the model's. -/
structure IsC (P : Program) (site : Option Nat) (ops : Array Oper) (o : Oper) (c : COp) : Prop where
  dst : o.dst = c.dst
  ao : comp P site o.type o.op = some c.ao
  guard : match o.guard, c.guard with
    | none, none => True
    | some (j, b), some (t, b') => (ops[j]?).bind (·.dst) = some t ∧ b = b'
    | _, _ => False

theorem run_value_eq {s : Sem Next} {K : Act → World → Prop} {Q : Exit → Act → World → Prop} {o : Oper} {v : Value} (h : s.run P w = .ok (.value v) w') (k : K (a.put o.dst v) w') : o.upon P a K Q (s.run P w) := by
  rw [h]; exact k
theorem run_skip_eq {s : Sem Next} {K : Act → World → Prop} {Q : Exit → Act → World → Prop} {o : Oper} (h : s.run P w = .ok .skip w') (k : K (a.put o.dst undef) w') : o.upon P a K Q (s.run P w) := by
  rw [h]; exact k

theorem IsC.wanted {site : Option Nat} {ops : Array Oper} {o : Oper} {c : COp} (hc : IsC P site ops o c) (h : Sim s0 S w0 D X H st a w) {b : Bool} (hb : c.on st b) : Region.wanted o (yielded ops a.tmps) = b := by
  have hg := hc.guard
  unfold COp.on at hb
  unfold Region.wanted
  split at hg
  · rename_i e1 e2
    rw [e2] at hb
    simp only at hb
    rw [e1, hb]
  · rename_i j b1 t b2 e1 e2
    rw [e2] at hb
    obtain ⟨y, hy, hb⟩ := hb
    obtain ⟨g1, rfl⟩ := hg
    rw [e1]
    simp only
    have ht := h.tm t _ hy
    have hlt : t < a.tmps.size := by rw [← h.sz]; exact (List.getElem?_eq_some_iff.1 hy).1
    have hv : a.tmps[t]? = some (.bool y) := by
      have := ht.lit'
      rw [Array.getD_eq_getD_getElem?, Array.getElem?_eq_getElem hlt] at this
      rw [Array.getElem?_eq_getElem hlt]
      exact congrArg some this
    have : yielded ops a.tmps j = some y := by
      unfold yielded
      rw [g1]
      simp only [Option.bind_some, hv]
    rw [this, hb]
    rfl
  · exact hg.elim

theorem comp_call {site : Option Nat} {ty : TypeId} {op : Op} {f : Nat} {xs : List Opd} (h : comp P site ty op = some (.call f xs)) :
    ∃ (ys : Array Operand) (tys : Array TypeId), op = .call { callee := .value (.func f), args := ys, argTypes := tys } ∧ opds ys.toList = some xs := by
  have no : ∀ {α : Type} {x : Option α} {g : α → AO}, (∀ a, g a ≠ .call f xs) → x.map g = some (.call f xs) → False := by
    intro α x g hg hx
    obtain ⟨z, _, e⟩ := map_some hx
    exact hg z e
  cases op with
  | call c =>
    obtain ⟨cal, args, tys⟩ := c
    cases cal with
    | value g =>
      cases g <;> simp only [comp] at h <;> try (cases h; done)
      obtain ⟨z, h1, e⟩ := map_some h
      injection e with e1 e2; subst e1; subst e2
      exact ⟨_, _, rfl, h1⟩
    | invoke => simp only [comp] at h; cases h
    | builtin b => exfalso; cases b <;> simp only [comp] at h <;> (repeat' split at h) <;> cases h
  | makeFunc fn first caps => exfalso; cases fn <;> simp only [comp] at h <;> (repeat' split at h) <;> first | (cases h; done) | exact no (fun _ e => by cases e) h
  | makeMap t r => exfalso; cases r <;> simp only [comp] at h <;> (repeat' split at h) <;> cases h
  | slice t x lo hi mx => exfalso; cases mx <;> simp only [comp] at h <;> (repeat' split at h) <;> cases h
  | _ => exfalso; simp only [comp] at h <;> (repeat' split at h) <;> first | (cases h; done) | exact no (fun _ e => by cases e) h

theorem Eff.sound {Γ : Ctx} (hΓ : CtxOK P Γ) {c : COp} (hq : w0.q = true → quietC Γ c.ao = true) {i : Nat} {r : AV} {M' : List (Option Blk)} (he : Eff Γ i c st r M') {site : Option Nat} {ops : Array Oper} {o : Oper} (ho : ops[i]? = some o) (hc : IsC P site ops o c) (h : Sim s0 S w0 D X H st a w) (hi : ¬ D i)
    (hfn : ∀ f, (Γ f).isSome = true → ∀ (vals : Array Value) (w : World), (callFunc f vals).run P w = .ok (.enter f vals) w)
    {Q : Exit → Act → World → Prop} {K : Act → World → Prop} (k : ∀ X' H' a' w', Sim s0 S w0 (fun j => D j ∨ j = i) X' H' ({ st with M := M' }.put c.dst r) a' w' → K a' w') : wpOp P ops Q i K a w := by
  unfold wpOp
  rw [ho]
  simp only
  cases he with
  | off hon =>
    rw [hc.wanted h hon]
    simp only [Bool.false_eq_true, if_false]
    rw [hc.dst]
    exact k X H _ _ ((h.done fun _ => .inl).put c.dst (.junk _))
  | op hon hcall hs =>
    rw [hc.wanted h hon]
    simp only [if_true]
    refine .inl ?_
    obtain ⟨v, w', H', hr, hle, hS, hC⟩ := comp_sound h hc.ao (fun e => by cases e1 : w0.q with | false => rfl | true => have := hq e1; rw [quietC_op hcall, e] at this; cases this) hcall hi hs
    unfold Oper.wp
    rcases hr with hr | ⟨hr, rfl⟩
    · exact run_value_eq hr (by rw [hc.dst]; exact k X H' _ _ (hS.put c.dst hC))
    · exact run_skip_eq hr (by rw [hc.dst]; exact k X H' _ _ (hS.put c.dst hC))
  | call hon hcl hG hl hcv hR =>
    rename_i f xs l R args
    rw [hc.wanted h hon]
    simp only [if_true]
    refine .inl ?_
    -- the call's own form
    have hao := hc.ao
    rw [hcl] at hao
    obtain ⟨ys, tys, hop, hys⟩ := comp_call hao
    obtain ⟨i1, i2⟩ := opds_some hys
    have hrun : (execOp a.eval o).run P w = .ok (.enter f (ys.map a.eval)) w := by
      have := hfn f (by rw [hG]; rfl) (ys.map a.eval) w
      simp only [execOp, hop, resolve, Deferred.ofValue, Act.eval, invoke, Sem.run_bind, Sem.run_pure, Result.andThen_ok]
      simpa using this
    unfold Oper.wp
    rw [hrun]
    simp only [Oper.upon]
    have hcon := hΓ.1 f l R hG args r hR (if l then X else allX w) w (ys.map a.eval) (by
      intro b o u hu
      cases l
      · exact hu
      · exact h.claims b o u hu) ⟨by simp [hl, ← i1], by
        intro j y u hy hu
        rw [Array.toList_map, List.getElem?_map] at hu
        cases e1 : ys.toList[j]? with
        | none => rw [e1] at hu; cases hu
        | some z =>
          rw [e1] at hu; injection hu with hu; subst hu
          have hjx : j < xs.length := by rw [← i1]; exact (List.getElem?_eq_some_iff.1 e1).1
          have hx := i2 j z _ e1 (List.getElem?_eq_getElem hjx)
          have hev := h.ev hx
          refine (hcv j _ y (List.getElem?_eq_getElem hjx) hy).sound (v := .tuple #[]) h hev (Z := if l then X else allX w) ?_ ?_ (by simp)
          · intro b o u hu
            cases l
            · exact h.claims b o u hu
            · exact hu
          · intro hO b o u hu _
            cases l
            · exact hu
            · cases hO⟩
    refine hcon.mono ?_
    rintro e w' ⟨v, Y, rfl, hY, hC, hB, hD⟩
    simp only
    rw [hc.dst]
    refine k (orX X Y) H _ _ (((h.called (fun e => hD (by have := hq e; rw [hcl] at this; exact this)) hB hY).done fun _ => .inl).put c.dst ?_)
    have hs : s0 ≤ w.heap.size := h.size
    cases l
    · exact hC.mono (fun b o u hu => by
        unfold orX
        cases hX : X b o with
        | none => exact hu
        | some z =>
          have h1 := World.block_lt_of_cell? w _ (h.claims b o z hX)
          have h2 := (hY b o u hu).1
          simp only at h1
          omega) hs H0_le
    · exact hC.mono (Claims.le.refl _) hs H0_le
end
end Go.Proofs.YtbpajecjaoefaaaGreat.V

/- The abstract machine: an operation does the same where more is there. -/
namespace Go.Proofs.YtbpajecjaoefaaaGreat.V
open Go Go.RowKit

def AO.opds : AO → List Opd
  | .mov x | .un _ x | .conv _ x | .len x | .lenm x | .lens x | .b2s x | .nck x | .fldA _ _ x | .load _ _ x | .fld _ _ _ x | .ext _ x | .box _ _ _ x | .ifc _ x => [x]
  | .nilr .. | .nilf .. | .alc .. | .mkm .. => []
  | .pick c x y => [c, x, y]
  | .bin _ x y | .beq _ x y | .aeq _ _ x y | .idxA _ x y | .store _ x y | .idxS x y | .mk _ _ _ _ _ x y | .app _ _ _ _ x y => [x, y]
  | .slc _ x lo hi | .sls x lo hi => x :: (lo.toList ++ hi.toList)
  | .sl _ _ _ _ _ ps => ps.map (·.2)
  | .bld _ ps => ps.map (·.2.2)
  | .lkp _ _ _ m k => [m, k]
  | .mset _ m k v => [m, k, v]
  | .clo _ xs | .call _ xs => xs

structure Le (st st2 : St) : Prop where
  g : st2.g = st.g
  len : st2.M.length = st.M.length
  M : ∀ (id : Nat) (B : Blk), st.M[id]? = some (some B) → st2.M[id]? = some (some B)

section
variable {st st2 : St}
theorem Le.blk (h : Le st st2) {id : Nat} {g : Gen} {B : Blk} (hb : st.blk id g = some B) : st2.blk id g = some B := by
  obtain ⟨h1, h2⟩ := St.blk_some hb
  unfold St.blk
  rw [h.M id B h1]
  simp [h2]
theorem Le.row (h : Le st st2) {k : Nat} {x : AV} {p : Nat × List AV} (hr : st.row k x = some p) : st2.row k x = some p := by
  unfold St.row at hr ⊢
  split at hr
  · split at hr
    · rename_i hb; simp only [h.blk hb]; exact hr
    · cases hr
  · split at hr
    · rename_i hb; simp only [h.blk hb]; exact hr
    · cases hr
  · simpa using hr
  · simpa using hr
  · cases hr
theorem Le.cells (h : Le st st2) {x : AV} {cs : List AV} (hr : st.cells x = some cs) : st2.cells x = some cs := by
  unfold St.cells at hr ⊢
  split at hr
  · split at hr
    · rename_i hb; simp only [h.blk hb]; exact hr
    · rename_i hb; simp only [h.blk hb]; exact hr
    · cases hr
  · exact hr
  · cases hr
theorem Le.bnd (h : Le st st2) {y : Option Opd} (hev : ∀ x ∈ y.toList, st2.ev x = st.ev x) (d : Int) : st2.bnd y d = st.bnd y d := by
  cases y with
  | none => rfl
  | some y => simp only [St.bnd, hev y (by simp)]

theorem upM_congr (h : Le st st2) {u u' : Option (Nat × Blk)} (e : upM st.M u = upM st.M u') : upM st2.M u = upM st2.M u' := by
  have noop : ∀ (id : Nat) (B : Blk), (id < st.M.length → st.M[id]? = some (some B)) → st2.M.set id (some B) = st2.M := by
    intro id B hB
    by_cases hlt : id < st.M.length
    · have h2 := h.M id B (hB hlt)
      refine List.ext_getElem? fun j => ?_
      rw [List.getElem?_set]
      split
      · rename_i ej; subst ej
        rw [if_pos (by rw [h.len]; exact hlt), h2]
      · rfl
    · exact List.set_eq_of_length_le (by rw [h.len]; omega)
  have back : ∀ (id : Nat) (B : Blk) (l : List (Option Blk)), st.M.set id (some B) = l → id < st.M.length → l[id]? = some (some B) := by
    intro id B l hl hlt
    rw [← hl, List.getElem?_set, if_pos rfl, if_pos hlt]
  match u, u', e with
  | none, none, _ => rfl
  | some (id, B), none, e => exact noop id B fun hlt => back id B _ e hlt
  | none, some (id, B), e => exact (noop id B fun hlt => back id B _ e.symm hlt).symm
  | some (id, B), some (id', B'), e =>
    simp only [upM] at e ⊢
    by_cases hid : id = id'
    · subst hid
      by_cases hlt : id < st.M.length
      · have := back id B _ e hlt
        rw [List.getElem?_set, if_pos rfl, if_pos hlt] at this
        injection this with this; injection this with this; rw [this]
      · rw [List.set_eq_of_length_le (by rw [h.len]; omega), List.set_eq_of_length_le (by rw [h.len]; omega)]
    · rw [noop id B, noop id' B']
      · intro hlt
        have := back id' B' _ e.symm hlt
        rw [List.getElem?_set, if_neg hid] at this
        exact this
      · intro hlt
        have := back id B _ e hlt
        rw [List.getElem?_set, if_neg (fun x => hid x.symm)] at this
        exact this

theorem evs_all {xs : List Opd} (h : ∀ x ∈ xs, st2.ev x = st.ev x) : xs.map st2.ev = xs.map st.ev := List.map_congr_left h

set_option maxHeartbeats 2000000 in
theorem astep_mono (h : Le st st2) {i : Nat} {ao : AO} {r : AV} {M' : List (Option Blk)} (hev : ∀ x ∈ ao.opds, st2.ev x = st.ev x) (hs : astep i st ao = some (r, M')) : ∃ u, M' = upM st.M u ∧ astep i st2 ao = some (r, upM st2.M u) := by
  have keep : ∀ {x : Option AV} {f : AV → AV}, x.map (fun r => (f r, st.M)) = some (r, M') → ∃ u, M' = upM st.M u ∧ x.map (fun r => (f r, st2.M)) = some (r, upM st2.M u) := by
    intro x f hx
    cases x with
    | none => cases hx
    | some z => injection hx with hx; injection hx with e1 e2; subst e1; subst e2; exact ⟨none, rfl, rfl⟩
  have one : ∀ {x : AV}, some (x, st.M) = some (r, M') → ∃ u, M' = upM st.M u ∧ some (x, st2.M) = some (r, upM st2.M u) := by
    intro x hx
    injection hx with hx; injection hx with e1 e2; subst e1; subst e2; exact ⟨none, rfl, rfl⟩
  have set : ∀ {x : AV} {id : Nat} {B : Blk}, some (x, st.M.set id (some B)) = some (r, M') → ∃ u, M' = upM st.M u ∧ some (x, st2.M.set id (some B)) = some (r, upM st2.M u) := by
    intro x id B hx
    injection hx with hx; injection hx with e1 e2; subst e1; subst e2; exact ⟨some (id, B), rfl, rfl⟩
  cases ao <;> simp only [AO.opds, List.mem_cons, List.not_mem_nil, or_false, forall_eq_or_imp, forall_eq, List.mem_append, List.mem_map] at hev <;> simp only [astep] at hs ⊢
  case mov x => rw [hev]; exact one hs
  case nilr id e k =>
    rw [h.len, h.g]
    split at hs
    · rename_i hc; rw [if_pos hc]; exact set hs
    · cases hs
  case nilf lab k => exact one hs
  case pick c x y =>
    rw [hev.1, hev.2.1, hev.2.2]
    split at hs
    · exact one hs
    · exact one hs
    · cases hs
  case bin b x y =>
    rw [hev.1, hev.2]
    split at hs
    · split at hs
      · rename_i hp; rw [if_pos hp]
        cases e : semVal (binOp b 0 _ _) with
        | none => rw [e] at hs; cases hs
        | some z => rw [e] at hs; exact one hs
      · cases hs
    · cases hs
  case beq neg x y =>
    rw [hev.1, hev.2]
    split at hs
    · exact one hs
    · cases hs
  case aeq neg ds x y =>
    rw [hev.1, hev.2]
    split at hs
    · cases e : eqA ds _ _ with
      | none => rw [e] at hs; cases hs
      | some z => rw [e] at hs; exact one hs
    · cases hs
  case un u x =>
    rw [hev]
    split at hs
    · rename_i v _
      cases e : semVal (Op.unary u v) with
      | none => rw [e] at hs; cases hs
      | some z => rw [e] at hs; exact one hs
    · cases hs
  case conv k x =>
    rw [hev]
    split at hs
    · exact one hs
    · cases hs
  case len x =>
    rw [hev]
    split at hs
    · split at hs
      · rename_i hb; simp only [h.blk hb]; exact one hs
      · cases hs
    · exact one hs
    · exact one hs
    · exact one hs
    · cases hs
  case lenm x =>
    rw [hev]
    split at hs
    · split at hs
      · rename_i hb; simp only [h.blk hb]; exact one hs
      · cases hs
    · cases hs
  case lens x =>
    rw [hev]
    split at hs
    · exact one hs
    · cases hs
  case b2s x =>
    rw [hev]
    split at hs
    · rename_i n cs hr
      rw [h.row hr]
      simp only
      cases e1 : u8s cs with
      | none => rw [e1] at hs; cases hs
      | some l => rw [e1] at hs; exact one hs
    · cases hs
  case nck x =>
    rw [hev]
    split at hs
    · exact one hs
    · exact one hs
    · cases hs
  case idxA k x j =>
    rw [hev.1, hev.2]
    split at hs
    · split at hs
      · split at hs
        · rename_i hb; simp only [h.blk hb]
          split at hs
          · rename_i hc; rw [if_pos hc]; exact one hs
          · cases hs
        · cases hs
      · split at hs
        · rename_i hc; rw [if_pos hc]; exact one hs
        · cases hs
      · split at hs
        · rename_i hc; rw [if_pos hc]; exact one hs
        · cases hs
      · cases hs
    · cases hs
  case fldA off n x =>
    rw [hev]
    split at hs
    · exact one hs
    · split at hs
      · rename_i hc; rw [if_pos hc]; exact one hs
      · cases hs
    · cases hs
  case load n ag x =>
    rw [hev]
    split at hs
    · rename_i cs hc
      rw [h.cells hc]
      simp only
      split at hs
      · rename_i hl; rw [if_pos hl]
        split at hs
        · rename_i ha; rw [if_pos ha]; exact one hs
        · rename_i ha; rw [if_neg ha]
          split at hs
          · exact one hs
          · cases hs
      · cases hs
    · cases hs
  case store n x v =>
    rw [hev.1, hev.2]
    split at hs
    · split at hs
      · rename_i hc; rw [if_pos hc]
        split at hs
        · rename_i hb; simp only [h.blk hb]
          split at hs
          · rename_i hl; rw [if_pos hl]; exact set hs
          · cases hs
        · rename_i hb; simp only [h.blk hb]
          split at hs
          · rename_i hl; rw [if_pos hl]; exact set hs
          · cases hs
        · cases hs
      · cases hs
    · cases hs
  case idxS x j =>
    rw [hev.1, hev.2]
    split at hs
    · split at hs
      · rename_i hc; rw [if_pos hc]; exact one hs
      · cases hs
    · cases hs
  case slc k x lo hi =>
    rw [hev.1, h.bnd (fun y hy => hev.2 y (.inl hy))]
    split at hs
    · rename_i n cs hr
      rw [h.row hr]
      simp only
      rw [h.bnd (fun y hy => hev.2 y (.inr hy))]
      split at hs
      · split at hs
        · rename_i hc; rw [if_pos hc]
          split at hs
          · rename_i hl; rw [if_pos hl]; exact one hs
          · rename_i hl; rw [if_neg hl]
            split at hs
            · exact one hs
            · exact one hs
            · exact one hs
            · cases hs
        · cases hs
      · cases hs
    · cases hs
  case sls x lo hi =>
    rw [hev.1, h.bnd (fun y hy => hev.2 y (.inl hy))]
    split at hs
    · rw [h.bnd (fun y hy => hev.2 y (.inr hy))]
      split at hs
      · split at hs
        · rename_i hc; rw [if_pos hc]; exact one hs
        · cases hs
      · cases hs
    · cases hs
  case mk id e k by_ z x y =>
    rw [hev.1, hev.2]
    split at hs
    · rw [h.len, h.g]
      split at hs
      · rename_i hc; rw [if_pos hc]; exact set hs
      · cases hs
    · cases hs
  case sl id e k len z ps =>
    have hps : ∀ p ∈ ps, st2.ev p.2 = st.ev p.2 := fun p hp => hev _ ⟨p, hp, rfl⟩
    rw [h.len, h.g]
    have e1 : (ps.all fun p => avs (st2.ev p.2) && (avc (st2.ev p.2)).length == k && decide (p.1 < len)) = (ps.all fun p => avs (st.ev p.2) && (avc (st.ev p.2)).length == k && decide (p.1 < len)) := by
      rw [Bool.eq_iff_iff]
      simp only [List.all_eq_true]
      constructor
      · intro q p hp; have := q p hp; rw [hps p hp] at this; exact this
      · intro q p hp; have := q p hp; rw [hps p hp]; exact this
    have e2 : ∀ c0 : List AV, ps.foldl (fun cs p => splice cs (p.1 * k) (avc (st2.ev p.2))) c0 = ps.foldl (fun cs p => splice cs (p.1 * k) (avc (st.ev p.2))) c0 := by
      clear hs e1 hev
      induction ps with
      | nil => intro c0; rfl
      | cons p ps ih => intro c0; simp only [List.foldl_cons]; rw [hps p (List.mem_cons_self ..)]; exact ih (fun q hq => hps q (List.mem_cons_of_mem _ hq)) _
    rw [e1, e2]
    split at hs
    · rename_i hc; rw [if_pos hc]; exact set hs
    · cases hs
  case app id e k by_ x y =>
    rw [hev.1, hev.2]
    split at hs
    · rename_i m ds hr
      rw [h.row hr]
      simp only
      split at hs
      · split at hs
        · rename_i hb; simp only [h.blk hb, h.g]
          split at hs
          · rename_i hc; rw [if_pos hc]; exact set hs
          · cases hs
        · cases hs
      · simp only [h.len, h.g]
        split at hs
        · rename_i hc; rw [if_pos hc]; exact set hs
        · cases hs
      · cases hs
    · cases hs
  case bld z ps =>
    have hps : ∀ p ∈ ps, st2.ev p.2.2 = st.ev p.2.2 := fun p hp => hev _ ⟨p, hp, rfl⟩
    have e1 : (ps.all fun p => avs (st2.ev p.2.2) && (avc (st2.ev p.2.2)).length == p.2.1 && decide (p.1 + p.2.1 ≤ z.length)) = (ps.all fun p => avs (st.ev p.2.2) && (avc (st.ev p.2.2)).length == p.2.1 && decide (p.1 + p.2.1 ≤ z.length)) := by
      rw [Bool.eq_iff_iff]
      simp only [List.all_eq_true]
      constructor
      · intro q p hp; have := q p hp; rw [hps p hp] at this; exact this
      · intro q p hp; have := q p hp; rw [hps p hp]; exact this
    have e2 : ∀ c0 : List AV, ps.foldl (fun cs p => splice cs p.1 (avc (st2.ev p.2.2))) c0 = ps.foldl (fun cs p => splice cs p.1 (avc (st.ev p.2.2))) c0 := by
      clear hs e1 hev
      induction ps with
      | nil => intro c0; rfl
      | cons p ps ih => intro c0; simp only [List.foldl_cons]; rw [hps p (List.mem_cons_self ..)]; exact ih (fun q hq => hps q (List.mem_cons_of_mem _ hq)) _
    rw [e1, e2]
    split at hs
    · rename_i hc; rw [if_pos hc]; exact one hs
    · cases hs
  case fld off n ag x =>
    rw [hev]
    split at hs
    · split at hs
      · rename_i hl; rw [if_pos hl]
        split at hs
        · rename_i ha; rw [if_pos ha]; exact one hs
        · rename_i ha; rw [if_neg ha]
          split at hs
          · rename_i h1; rw [if_pos h1]; exact keep (f := fun x => x) hs
          · cases hs
      · cases hs
    · cases hs
  case ext j x =>
    rw [hev]
    split at hs
    · exact keep (f := fun x => x) hs
    · cases hs
  case box id t n x =>
    rw [hev, h.len, h.g]
    split at hs
    · rename_i hc; rw [if_pos hc]; exact set hs
    · cases hs
  case alc id t z =>
    rw [h.len, h.g]
    split at hs
    · rename_i hc; rw [if_pos hc]; exact set hs
    · cases hs
  case mkm id kt vt =>
    rw [h.len, h.g]
    split at hs
    · rename_i hc; rw [if_pos hc]; exact set hs
    · cases hs
  case lkp ok kd z m k =>
    rw [hev.1, hev.2]
    split at hs
    · split at hs
      · rename_i hb; simp only [h.blk hb]
        split at hs
        · rename_i hk; rw [if_pos hk]
          obtain ⟨q, e1, e2⟩ := map_some hs
          rw [e1]
          exact one (by rw [← e2])
        · cases hs
      · cases hs
    · cases hs
  case mset kd m k v =>
    rw [hev.1, hev.2.1, hev.2.2]
    split at hs
    · split at hs
      · rename_i hb; simp only [h.blk hb]
        split at hs
        · rename_i hk; rw [if_pos hk]
          obtain ⟨q, e1, e2⟩ := map_some hs
          rw [e1]
          exact set (by rw [← e2])
        · cases hs
      · cases hs
    · cases hs
  case ifc t x => rw [hev]; exact one hs
  case clo f xs => rw [evs_all hev]; exact one hs
  case call => cases hs
end
end Go.Proofs.YtbpajecjaoefaaaGreat.V

/- The abstract machine: operations that may come up in any order. -/
namespace Go.Proofs.YtbpajecjaoefaaaGreat.V
open Go Go.RowKit

/-- Of an operation: the blocks that it may touch (none: any), and those that it may turn. -/
structure Ann where
  T : Option (List Nat)
  W : List Nat
instance : Inhabited COp := ⟨⟨none, none, .mkm 0 0 0⟩⟩
instance : Inhabited Ann := ⟨⟨none, []⟩⟩

def opdRegs : List Opd → List Nat
  | [] => []
  | .r j :: xs => j :: opdRegs xs
  | _ :: xs => opdRegs xs
def COp.looks (c : COp) : List Nat := (match c.guard with | some (t, _) => [t] | none => []) ++ opdRegs c.ao.opds
def inTb (T : Option (List Nat)) (id : Nat) : Bool := match T with | none => true | some l => l.contains id
def compat (c : COp) (an : Ann) (c' : COp) (an' : Ann) : Bool :=
  (match c.dst with | none => true | some d => !c'.looks.contains d && (match c'.dst with | none => true | some d' => d' != d)) &&
  (match c'.dst with | none => true | some d => !c.looks.contains d) &&
  an.W.all (fun id => !inTb an'.T id) && an'.W.all (fun id => !inTb an.T id) && an.W.all (fun id => !an'.W.contains id)

def edges (o : Oper) : List Nat := (o.after.toList.filter fun e => Region.binds .any e).map (·.on)
def masks : List (List Nat) → List Nat → List Nat
  | [], acc => acc
  | e :: es, acc => masks es (acc ++ [e.foldl (fun s j => s ||| 2 ^ j ||| acc.getD j 0) 0])
/-- Whatever may come in either order does not meet. -/
def orderOK (es : List (List Nat)) (cs : List COp) (ans : List Ann) : Bool :=
  let ms := masks es []
  (List.range cs.length).all fun j => (es.getD j []).all (fun e => decide (e < j)) && (List.range j).all fun i => (ms.getD j 0).testBit i || compat (cs.getD i default) (ans.getD i default) (cs.getD j default) (ans.getD j default)

inductive Anc (es : List (List Nat)) : Nat → Nat → Prop
  | one {j e : Nat} (h : e ∈ es.getD j []) : Anc es j e
  | more {j e k : Nat} (h : e ∈ es.getD j []) (t : Anc es e k) : Anc es j k

theorem testBit_fold (acc : List Nat) (b : Nat) : ∀ (e : List Nat) (s : Nat), (e.foldl (fun s j => s ||| 2 ^ j ||| acc.getD j 0) s).testBit b = true → s.testBit b = true ∨ ∃ j ∈ e, j = b ∨ (acc.getD j 0).testBit b = true
  | [], s, h => .inl h
  | j :: e, s, h => by
    rw [List.foldl_cons] at h
    rcases testBit_fold acc b e _ h with h | ⟨k, hk, h⟩
    · rw [Nat.testBit_or, Nat.testBit_or, Nat.testBit_two_pow] at h
      simp only [Bool.or_eq_true, decide_eq_true_eq] at h
      rcases h with (h | h) | h
      · exact .inl h
      · exact .inr ⟨j, List.mem_cons_self .., .inl h⟩
      · exact .inr ⟨j, List.mem_cons_self .., .inr h⟩
    · exact .inr ⟨k, List.mem_cons_of_mem _ hk, h⟩

theorem masks_anc (all : List (List Nat)) : ∀ (rest done : List (List Nat)) (acc : List Nat), all = done ++ rest → acc.length = done.length → (∀ j b, (acc.getD j 0).testBit b = true → Anc all j b) → ∀ j b, ((masks rest acc).getD j 0).testBit b = true → Anc all j b
  | [], done, acc, _, _, h => h
  | e :: rest, done, acc, hall, hl, h => by
    refine masks_anc all rest (done ++ [e]) _ (by rw [hall]; simp) (by simp [hl]) ?_
    intro j b hb
    by_cases hj : j < acc.length
    · rw [List.getD_eq_getElem?_getD, List.getElem?_append_left hj, ← List.getD_eq_getElem?_getD] at hb
      exact h j b hb
    · by_cases hj' : j = acc.length
      · subst hj'
        rw [List.getD_eq_getElem?_getD, List.getElem?_append_right (Nat.le_refl _), Nat.sub_self] at hb
        simp only [List.getElem?_cons_zero, Option.getD_some] at hb
        have hat : all.getD acc.length [] = e := by
          rw [hall, List.getD_eq_getElem?_getD, List.getElem?_append_right (by omega), hl, Nat.sub_self]; rfl
        rcases testBit_fold acc b e 0 hb with h0 | ⟨k, hk, h1⟩
        · simp at h0
        · rcases h1 with rfl | h1
          · exact .one (by rw [hat]; exact hk)
          · exact .more (by rw [hat]; exact hk) (h k b h1)
      · rw [List.getD_eq_getElem?_getD, List.getElem?_append_right (by omega)] at hb
        rw [List.getElem?_eq_none (by simp; omega)] at hb
        simp at hb

def maskM (l : List Nat) : Nat → List (Option Blk) → List (Option Blk)
  | _, [] => []
  | i, b :: bs => (if l.contains i then b else none) :: maskM l (i + 1) bs
def St.restr (st : St) : Option (List Nat) → St
  | none => st
  | some l => { st with M := maskM l 0 st.M }
theorem maskM_length (l : List Nat) : ∀ (i : Nat) (M : List (Option Blk)), (maskM l i M).length = M.length
  | _, [] => rfl
  | i, b :: bs => by simp [maskM, maskM_length l]
theorem maskM_at (l : List Nat) : ∀ (M : List (Option Blk)) (i j : Nat) (B : Blk), (maskM l i M)[j]? = some (some B) → l.contains (i + j) = true ∧ M[j]? = some (some B)
  | [], i, j, B, h => by simp [maskM] at h
  | b :: bs, i, 0, B, h => by
    simp only [maskM, List.getElem?_cons_zero, Option.some.injEq] at h
    split at h
    · rename_i hc; exact ⟨hc, by rw [h]; rfl⟩
    · cases h
  | b :: bs, i, j + 1, B, h => by
    simp only [maskM, List.getElem?_cons_succ] at h
    obtain ⟨h1, h2⟩ := maskM_at l bs (i + 1) j B h
    exact ⟨by rw [show i + (j + 1) = i + 1 + j by omega]; exact h1, by simpa using h2⟩

abbrev U := Option (Nat × Blk)
def St.app (st : St) (c : COp) (p : AV × U) : St := { st with M := upM st.M p.2 }.put c.dst p.1

/-- Operations in the text's order, each with its own blocks alone in sight. -/
inductive DSq (Γ : Ctx) : Nat → List COp → List Ann → St → List (AV × U) → St → Prop
  | nil {i : Nat} {st : St} : DSq Γ i [] [] st [] st
  | cons {i : Nat} {c : COp} {an : Ann} {cs : List COp} {ans : List Ann} {ps : List (AV × U)} {st st' : St} {r : AV} {u : U} (h : Eff Γ i c (st.restr an.T) r (upM (st.restr an.T).M u)) (hw : ∀ p, u = some p → p.1 ∈ an.W)
      (t : DSq Γ (i + 1) cs ans (st.app c (r, u)) ps st') : DSq Γ i (c :: cs) (an :: ans) st ((r, u) :: ps) st'

/-- The state behind those of the first m operations that are listed. -/
def AL (L : Nat → Bool) (cs : List COp) (ps : List (AV × U)) (st : St) : Nat → St
  | 0 => st
  | m + 1 => if L m then (AL L cs ps st m).app (cs.getD m default) (ps.getD m (.junk, none)) else AL L cs ps st m

theorem AL_shift (c : COp) (p : AV × U) (cs : List COp) (ps : List (AV × U)) (st : St) : ∀ m, AL (fun _ => true) (c :: cs) (p :: ps) st (m + 1) = AL (fun _ => true) cs ps (st.app c p) m
  | 0 => rfl
  | m + 1 => by
    rw [AL, if_pos rfl, AL_shift c p cs ps st m, AL, if_pos rfl]
    rfl

theorem DSq.get {Γ : Ctx} : ∀ {i : Nat} {cs : List COp} {ans : List Ann} {st st' : St} {ps : List (AV × U)}, DSq Γ i cs ans st ps st' → ps.length = cs.length ∧ ans.length = cs.length ∧ st' = AL (fun _ => true) cs ps st cs.length ∧
    ∀ j, j < cs.length → Eff Γ (i + j) (cs.getD j default) ((AL (fun _ => true) cs ps st j).restr (ans.getD j default).T) (ps.getD j (.junk, none)).1 (upM ((AL (fun _ => true) cs ps st j).restr (ans.getD j default).T).M (ps.getD j (.junk, none)).2) ∧
      ∀ p, (ps.getD j (.junk, none)).2 = some p → p.1 ∈ (ans.getD j default).W := by
  intro i cs ans st st' ps h
  induction h with
  | nil => exact ⟨rfl, rfl, rfl, fun j hj => by simp at hj⟩
  | cons he hw t ih =>
    obtain ⟨h1, h2, h3, h4⟩ := ih
    refine ⟨by simp [h1], by simp [h2], ?_, ?_⟩
    · rw [List.length_cons, AL_shift]; exact h3
    · intro j hj
      cases j with
      | zero => exact ⟨he, hw⟩
      | succ j =>
        have := h4 j (by simpa using hj)
        rw [AL_shift]
        simp only [List.getD_cons_succ]
        rw [show ∀ i : Nat, i + (j + 1) = i + 1 + j from fun i => by omega]
        exact this

/-- The states agree on what an operation looks at. -/
structure Ag (ls : List Nat) (T : Option (List Nat)) (s s2 : St) : Prop where
  g : s2.g = s.g
  len : s2.M.length = s.M.length
  tm : ∀ t ∈ ls, s2.tm[t]? = s.tm[t]?
  M : ∀ id, inTb T id = true → s2.M[id]? = s.M[id]?
theorem Ag.refl (ls : List Nat) (T : Option (List Nat)) (s : St) : Ag ls T s s := ⟨rfl, rfl, fun _ _ => rfl, fun _ _ => rfl⟩

theorem St.put_g (s : St) (d : Option Nat) (x : AV) : (s.put d x).g = s.g := by cases d <;> rfl
theorem St.put_M (s : St) (d : Option Nat) (x : AV) : (s.put d x).M = s.M := by cases d <;> rfl
theorem St.app_g (s : St) (c : COp) (p : AV × U) : (s.app c p).g = s.g := St.put_g _ _ _
theorem St.app_M (s : St) (c : COp) (p : AV × U) : (s.app c p).M = upM s.M p.2 := St.put_M _ _ _
theorem upM_length (M : List (Option Blk)) (u : U) : (upM M u).length = M.length := by
  cases u with
  | none => rfl
  | some p => simp [upM]
theorem St.app_tm (s : St) (c : COp) (p : AV × U) (t : Nat) (h : c.dst ≠ some t) : (s.app c p).tm[t]? = s.tm[t]? := by
  unfold St.app St.put
  cases e : c.dst with
  | none => rfl
  | some d =>
    simp only [List.getElem?_set]
    rw [if_neg (fun x => h (by rw [e, x]))]
theorem upM_at (M : List (Option Blk)) (u : U) (id : Nat) (h : ∀ p, u = some p → p.1 ≠ id) : (upM M u)[id]? = M[id]? := by
  cases u with
  | none => rfl
  | some p => simp only [upM, List.getElem?_set]; rw [if_neg (h p rfl)]

/-- What does not meet leaves the agreement. -/
theorem Ag.left {ls : List Nat} {T : Option (List Nat)} {s s2 : St} (h : Ag ls T s s2) {c : COp} {p : AV × U} (hd : ∀ d, c.dst = some d → d ∉ ls) (hu : ∀ q, p.2 = some q → inTb T q.1 = false) : Ag ls T (s.app c p) s2 :=
  ⟨by rw [St.app_g]; exact h.g, by rw [St.app_M, upM_length]; exact h.len, fun t ht => by
    rw [St.app_tm s c p t (fun e => hd t e ht)]; exact h.tm t ht, fun id hid => by
    rw [St.app_M, upM_at _ _ _ (fun q e hq => by have := hu q e; rw [hq, hid] at this; cases this)]; exact h.M id hid⟩
theorem Ag.right {ls : List Nat} {T : Option (List Nat)} {s s2 : St} (h : Ag ls T s s2) {c : COp} {p : AV × U} (hd : ∀ d, c.dst = some d → d ∉ ls) (hu : ∀ q, p.2 = some q → inTb T q.1 = false) : Ag ls T s (s2.app c p) :=
  ⟨by rw [St.app_g]; exact h.g, by rw [St.app_M, upM_length]; exact h.len, fun t ht => by
    rw [St.app_tm s2 c p t (fun e => hd t e ht)]; exact h.tm t ht, fun id hid => by
    rw [St.app_M, upM_at _ _ _ (fun q e hq => by have := hu q e; rw [hq, hid] at this; cases this)]; exact h.M id hid⟩
theorem St.app_len (s : St) (c : COp) (p : AV × U) : (s.app c p).tm.length = s.tm.length := by
  unfold St.app St.put
  cases c.dst <;> simp
theorem Ag.both {ls : List Nat} {T : Option (List Nat)} {s s2 : St} (h : Ag ls T s s2) (hl : s2.tm.length = s.tm.length) (c : COp) (p : AV × U) : Ag ls T (s.app c p) (s2.app c p) :=
  ⟨by rw [St.app_g, St.app_g]; exact h.g, by rw [St.app_M, St.app_M, upM_length, upM_length]; exact h.len, fun t ht => by
    by_cases e : c.dst = some t
    · unfold St.app St.put
      simp only [e, List.getElem?_set, if_true, hl]
    · rw [St.app_tm s c p t e, St.app_tm s2 c p t e]; exact h.tm t ht, fun id hid => by
    rw [St.app_M, St.app_M]
    cases hp : p.2 with
    | none => exact h.M id hid
    | some q =>
      simp only [upM, List.getElem?_set]
      split
      · rw [h.len]
      · exact h.M id hid⟩

theorem AL_len (L : Nat → Bool) (cs : List COp) (ps : List (AV × U)) (st : St) : ∀ m, (AL L cs ps st m).tm.length = st.tm.length
  | 0 => rfl
  | m + 1 => by
    rw [AL]
    split
    · rw [St.app_len]; exact AL_len L cs ps st m
    · exact AL_len L cs ps st m

/-- Two operations that do not meet, in either order. -/
theorem app_comm (s : St) {c c' : COp} {p p' : AV × U} (hd : ∀ d d', c.dst = some d → c'.dst = some d' → d ≠ d') (hu : ∀ q q', p.2 = some q → p'.2 = some q' → q.1 ≠ q'.1) : (s.app c p).app c' p' = (s.app c' p').app c p := by
  have hM : upM (upM s.M p.2) p'.2 = upM (upM s.M p'.2) p.2 := by
    cases e : p.2 with
    | none => rfl
    | some q =>
      cases e' : p'.2 with
      | none => rfl
      | some q' => simp only [upM]; exact List.set_comm _ _ (hu q q' e e')
  unfold St.app St.put
  cases e : c.dst with
  | none =>
    cases e' : c'.dst with
    | none => simp only [hM]
    | some d' => simp only [hM]
  | some d =>
    cases e' : c'.dst with
    | none => simp only [hM]
    | some d' => simp only [hM]; rw [List.set_comm _ _ (hd d d' e e')]

section
variable {P : Program} {s0 : Nat} {S : Nat → Nat → Prop} {w0 : Base}

theorem Cv.mono {st st2 : St} {O L : Bool} {x y : AV} (h : Cv st O L x y) (hb : ∀ id g B, st.blk id g = some B → st2.blk id g = some B) : Cv st2 O L x y := by
  induction h with
  | lit v => exact .lit v
  | nil lab k => exact .nil lab k
  | frz hl hlen _ ih => exact .frz hl hlen ih
  | frz0 => exact .frz0
  | own hO hb' hl hlen _ ih => exact .own hO (hb _ _ _ hb') hl hlen ih
  | own0 hO hb' => exact .own0 hO (hb _ _ _ hb')
  | sub hO hb' hle hl hlen _ ih => exact .sub hO (hb _ _ _ hb') hle hl hlen ih
  | agg hlen _ ih => exact .agg hlen ih
  | tup hlen _ ih => exact .tup hlen ih
  | ifc _ ih => exact .ifc ih

theorem regs_ev {s s2 : St} {xs : List Opd} (h : ∀ t ∈ opdRegs xs, s2.tm[t]? = s.tm[t]?) : ∀ x ∈ xs, s2.ev x = s.ev x := by
  induction xs with
  | nil => intro x hx; simp at hx
  | cons y ys ih =>
    intro x hx
    rcases List.mem_cons.1 hx with rfl | hx
    · cases x with
      | r j => simp only [St.ev, List.getD_eq_getElem?_getD]; rw [h j (by simp [opdRegs])]
      | k v => rfl
      | fn f => rfl
    · exact ih (fun t ht => h t (by cases y <;> simp [opdRegs, ht])) x hx

theorem Eff.mono {Γ : Ctx} {i : Nat} {c : COp} {st st2 : St} {r : AV} {u : U} (h : Eff Γ i c st r (upM st.M u)) (hL : Le st st2) (hl : ∀ t ∈ c.looks, st2.tm[t]? = st.tm[t]?) : Eff Γ i c st2 r (upM st2.M u) := by
  have hon : ∀ b, c.on st b → c.on st2 b := by
    intro b hb
    unfold COp.on at hb ⊢
    split at hb
    · exact hb
    · rename_i t want e
      obtain ⟨y, hy, e2⟩ := hb
      exact ⟨y, by rw [hl t (by simp [COp.looks, e])]; exact hy, e2⟩
  have hev : ∀ x ∈ c.ao.opds, st2.ev x = st.ev x := regs_ev fun t ht => hl t (by simp [COp.looks, ht])
  generalize hM : upM st.M u = M' at h
  cases h with
  | off h0 =>
    have : upM st2.M u = st2.M := by
      have := upM_congr hL (u := u) (u' := none) (by rw [hM]; rfl)
      simpa [upM] using this
    rw [this]; exact .off (hon _ h0)
  | op h0 hc hs =>
    obtain ⟨u', e1, e2⟩ := astep_mono hL hev hs
    rw [upM_congr hL (u := u) (u' := u') (by rw [hM, e1])]
    exact .op (hon _ h0) hc e2
  | call h0 hc hΓ hlen hcv hR =>
    have : upM st2.M u = st2.M := by
      have := upM_congr hL (u := u) (u' := none) (by rw [hM]; rfl)
      simpa [upM] using this
    rw [this]
    refine .call (hon _ h0) hc hΓ hlen (fun j x y hx hy => ?_) hR
    rw [hev x (by rw [hc]; exact List.mem_of_getElem? hx)]
    exact (hcv j x y hx hy).mono fun id g B hb => hL.blk hb

theorem Ag.le {ls : List Nat} {T : Option (List Nat)} {s s2 : St} (h : Ag ls T s s2) : Le (s.restr T) s2 := by
  cases T with
  | none => exact ⟨h.g, h.len, fun id B hB => by rw [h.M id rfl]; exact hB⟩
  | some l =>
    refine ⟨h.g, by simp only [St.restr, maskM_length]; exact h.len, fun id B hB => ?_⟩
    obtain ⟨h1, h2⟩ := maskM_at l s.M 0 id B hB
    rw [Nat.zero_add] at h1
    rw [h.M id h1]; exact h2

theorem compat_spec {c c' : COp} {an an' : Ann} (h : compat c an c' an' = true) :
    (∀ d, c.dst = some d → d ∉ c'.looks) ∧ (∀ d, c'.dst = some d → d ∉ c.looks) ∧ (∀ d d', c.dst = some d → c'.dst = some d' → d ≠ d') ∧ (∀ id ∈ an.W, inTb an'.T id = false) ∧ (∀ id ∈ an'.W, inTb an.T id = false) ∧ (∀ id ∈ an.W, id ∉ an'.W) := by
  unfold compat at h
  simp only [Bool.and_eq_true, List.all_eq_true, Bool.not_eq_true'] at h
  obtain ⟨⟨⟨⟨h1, h2⟩, h3⟩, h4⟩, h5⟩ := h
  refine ⟨fun d e => ?_, fun d e => ?_, fun d d' e e' => ?_, h3, h4, fun id hid hid' => ?_⟩
  · rw [e] at h1
    simp only [Bool.and_eq_true, Bool.not_eq_true'] at h1
    intro hm
    have : c'.looks.contains d = true := by simpa using hm
    rw [h1.1] at this; cases this
  · rw [e] at h2
    simp only [Bool.not_eq_true'] at h2
    intro hm
    have : c.looks.contains d = true := by simpa using hm
    rw [h2] at this; cases this
  · rw [e, e'] at h1
    simp only [Bool.and_eq_true, bne_iff_ne, ne_eq] at h1
    exact fun x => h1.2 x.symm
  · have := h5 id hid
    have h6 : an'.W.contains id = true := by simpa using hid'
    rw [this] at h6; cases h6

theorem filter_lt {p q : Nat → Bool} {i : Nat} (hpi : p i = true) (hqi : q i = false) (hqp : ∀ j, q j = true → p j = true) : ∀ {l : List Nat}, i ∈ l → (l.filter q).length < (l.filter p).length := by
  have hle : ∀ l : List Nat, (l.filter q).length ≤ (l.filter p).length := by
    intro l
    induction l with
    | nil => exact Nat.le_refl _
    | cons a l ih =>
      simp only [List.filter_cons]
      by_cases ha : q a = true
      · rw [if_pos ha, if_pos (hqp a ha)]; simp; exact ih
      · rw [if_neg ha]; split <;> (try simp only [List.length_cons]) <;> omega
  intro l
  induction l with
  | nil => intro h; simp at h
  | cons a l ih =>
    intro h
    simp only [List.filter_cons]
    rcases List.mem_cons.1 h with rfl | h
    · rw [if_pos hpi, if_neg (by rw [hqi]; simp)]
      have := hle l; simp; omega
    · have := ih h
      by_cases ha : q a = true
      · rw [if_pos ha, if_pos (hqp a ha)]; simp; exact this
      · rw [if_neg ha]; split <;> (try simp only [List.length_cons]) <;> omega

theorem DSq.sound {Γ : Ctx} {cs : List COp} (hq : w0.q = true → ∀ c ∈ cs, quietC Γ c.ao = true) (hΓ : CtxOK P Γ) (hfn : ∀ f, (Γ f).isSome = true → ∀ (vals : Array Value) (w : World), (callFunc f vals).run P w = .ok (.enter f vals) w) {ops : Array Oper} {site : Nat → Option Nat} {Q : Exit → Act → World → Prop}
    {ans : List Ann} {ps : List (AV × U)} {st st' : St} (hd : DSq Γ 0 cs ans st ps st') (hlen : cs.length = ops.size) (hc : ∀ (j : Nat) (o : Oper), ops[j]? = some o → IsC P (site j) ops o (cs.getD j default))
    (hok : orderOK (ops.toList.map edges) cs ans = true) (hQ : ∀ X H a w, Sim s0 S w0 (fun j => j < ops.size) X H st' a w → Q .normal a w) :
    ∀ {X : Claims} {H : Heads} {a : Act} {w : World}, Sim s0 S w0 (fun _ => False) X H st a w → wpAny P .any ops Q ops.size (Array.replicate ops.size false) a w := by
  obtain ⟨hp1, hp2, hst', hE⟩ := hd.get
  -- what the check says
  have hedge : ∀ j o, ops[j]? = some o → ∀ e ∈ edges o, e < j := by
    intro j o ho e he
    have hj : j < cs.length := by rw [hlen]; exact (Array.getElem?_eq_some_iff.1 ho).1
    unfold orderOK at hok
    simp only [List.all_eq_true, List.mem_range, Bool.and_eq_true, decide_eq_true_eq] at hok
    refine (hok j hj).1 e ?_
    rw [List.getD_eq_getElem?_getD, List.getElem?_map, Array.getElem?_toList, ho]
    exact he
  have hpair : ∀ i j, i < j → j < cs.length → Anc (ops.toList.map edges) j i ∨ compat (cs.getD i default) (ans.getD i default) (cs.getD j default) (ans.getD j default) = true := by
    intro i j hij hj
    unfold orderOK at hok
    simp only [List.all_eq_true, List.mem_range, Bool.and_eq_true, Bool.or_eq_true] at hok
    rcases (hok j hj).2 i hij with h | h
    · exact .inl (masks_anc _ _ [] [] rfl rfl (by intro j b hb; simp at hb) j i h)
    · exact .inr h
  have hanc : ∀ (L : Nat → Bool), (∀ j o, ops[j]? = some o → L j = true → ∀ e ∈ edges o, L e = true) → ∀ j k, Anc (ops.toList.map edges) j k → (L j = true ∨ ∀ o, ops[j]? = some o → ∀ e ∈ edges o, L e = true) → L k = true := by
    intro L hL j k hA
    have get : ∀ j e, e ∈ (ops.toList.map edges).getD j [] → ∃ o, ops[j]? = some o ∧ e ∈ edges o := by
      intro j e he
      rw [List.getD_eq_getElem?_getD, List.getElem?_map, Array.getElem?_toList] at he
      cases ho : ops[j]? with
      | none => rw [ho] at he; simp at he
      | some o => rw [ho] at he; exact ⟨o, rfl, he⟩
    induction hA with
    | one he =>
      intro h
      obtain ⟨o, ho, he'⟩ := get _ _ he
      rcases h with h | h
      · exact hL _ o ho h _ he'
      · exact h o ho _ he'
    | more he _ ih =>
      intro h
      obtain ⟨o, ho, he'⟩ := get _ _ he
      refine ih (.inl ?_)
      rcases h with h | h
      · exact hL _ o ho h _ he'
      · exact h o ho _ he'
  have key : ∀ (fuel : Nat) (listed : Array Bool), listed.size = ops.size → (∀ j o, ops[j]? = some o → listed.getD j false = true → ∀ e ∈ edges o, listed.getD e false = true) →
      ((List.range ops.size).filter fun j => !listed.getD j false).length ≤ fuel →
      ∀ {X : Claims} {H : Heads} {a : Act} {w : World}, Sim s0 S w0 (fun j => listed.getD j false = true) X H (AL (fun j => listed.getD j false) cs ps st cs.length) a w → wpAny P .any ops Q fuel listed a w := by
    intro fuel
    induction fuel with
    | zero =>
      intro listed hsz hdown hcnt X H a w hS
      have hall : ∀ j, j < ops.size → listed.getD j false = true := by
        intro j hj
        have h0 : (List.range ops.size).filter (fun j => !listed.getD j false) = [] := List.eq_nil_of_length_eq_zero (by omega)
        have := List.filter_eq_nil_iff.1 h0 j (List.mem_range.2 hj)
        simpa using this
      have hready : Region.ready .any ops listed = [] := by
        unfold Region.ready
        rw [List.filter_eq_nil_iff]
        intro j hj
        have h1 := hall j (List.mem_range.1 hj)
        have : listed.getD j true = true := by
          rw [Array.getD_eq_getD_getElem?] at h1 ⊢
          rw [Array.getElem?_eq_getElem (by rw [hsz]; exact List.mem_range.1 hj)] at h1 ⊢
          exact h1
        simp only [this, Bool.not_true, Bool.false_and, Bool.false_eq_true, not_false_eq_true]
      refine ⟨hready, ?_⟩
      have hAL : ∀ m, m ≤ cs.length → AL (fun j => listed.getD j false) cs ps st m = AL (fun _ => true) cs ps st m := by
        intro m
        induction m with
        | zero => intro _; rfl
        | succ m ih => intro hm; rw [AL, AL, if_pos (hall m (by omega)), if_pos rfl, ih (by omega)]
      rw [hAL _ (Nat.le_refl _), ← hst'] at hS
      exact hQ X H a w (hS.done fun j hj => by
        rw [Array.getD_eq_getD_getElem?] at hj
        cases e : listed[j]? with
        | none => rw [e] at hj; cases hj
        | some b => rw [← hsz]; exact (Array.getElem?_eq_some_iff.1 e).1)
    | succ fuel ih =>
      intro listed hsz hdown hcnt X H a w hS
      -- L: the listed ones
      generalize hL : (fun j => listed.getD j false) = L at hS
      have hLj : ∀ j, listed.getD j false = L j := fun j => by rw [← hL]
      have hLsz : ∀ j, L j = true → j < ops.size := by
        intro j hj
        rw [← hLj, Array.getD_eq_getD_getElem?] at hj
        cases e : listed[j]? with
        | none => rw [e] at hj; cases hj
        | some b => rw [← hsz]; exact (Array.getElem?_eq_some_iff.1 e).1
      have hdown' : ∀ j o, ops[j]? = some o → L j = true → ∀ e ∈ edges o, L e = true := fun j o ho hj e he => by rw [← hLj]; exact hdown j o ho (by rw [hLj]; exact hj) e he
      refine ⟨?_, ?_⟩
      · intro hready
        -- nothing may come: all is listed
        have hall : ∀ j, j < ops.size → L j = true := by
          intro j
          induction j using Nat.strongRecOn with
          | _ j ihj =>
            intro hj
            apply Classical.byContradiction
            intro hn
            have hn' : L j = false := by simpa using hn
            have hmem : j ∈ Region.ready .any ops listed := by
              unfold Region.ready
              rw [List.mem_filter]
              refine ⟨List.mem_range.2 hj, ?_⟩
              have h1 : listed.getD j true = false := by
                have := hLj j
                rw [hn', Array.getD_eq_getD_getElem?, Array.getElem?_eq_getElem (by rw [hsz]; exact hj)] at this
                rw [Array.getD_eq_getD_getElem?, Array.getElem?_eq_getElem (by rw [hsz]; exact hj)]
                exact this
              rw [h1, Array.getElem?_eq_getElem hj]
              simp only [Bool.not_false, Bool.true_and, Option.map_some, Option.getD_some, Array.all_eq_true']
              intro e he
              by_cases hb : Region.binds .any e = true
              · have hmem : e.on ∈ edges ops[j] := List.mem_map.2 ⟨e, List.mem_filter.2 ⟨Array.mem_toList_iff.2 he, hb⟩, rfl⟩
                have hlt := hedge j _ (Array.getElem?_eq_getElem hj) e.on hmem
                have := ihj e.on hlt (by omega)
                rw [hLj, this]; simp
              · simp [hb]
            rw [hready] at hmem; simp at hmem
        have hAL : ∀ m, m ≤ cs.length → AL L cs ps st m = AL (fun _ => true) cs ps st m := by
          intro m
          induction m with
          | zero => intro _; rfl
          | succ m ih => intro hm; rw [AL, AL, if_pos (hall m (by omega)), if_pos rfl, ih (by omega)]
        rw [hAL _ (Nat.le_refl _), ← hst'] at hS
        refine hQ X H a w (hS.done fun j hj => hLsz j (by rw [← hLj]; exact hj))
      · intro i hi
        unfold Region.ready at hi
        rw [List.mem_filter, List.mem_range] at hi
        obtain ⟨hi1, hi2⟩ := hi
        rw [Array.getElem?_eq_getElem hi1] at hi2
        simp only [Option.map_some, Option.getD_some, Bool.and_eq_true, Bool.not_eq_true', Array.all_eq_true', Bool.or_eq_true] at hi2
        obtain ⟨hi2, hi3⟩ := hi2
        have hLi : L i = false := by
          rw [← hLj]
          rw [Array.getD_eq_getD_getElem?, Array.getElem?_eq_getElem (by rw [hsz]; exact hi1)] at hi2 ⊢
          exact hi2
        have hbefore : ∀ o, ops[i]? = some o → ∀ e ∈ edges o, L e = true := by
          intro o ho e he
          rw [Array.getElem?_eq_getElem hi1] at ho
          injection ho with ho; subst ho
          obtain ⟨e', h1, rfl⟩ := List.mem_map.1 he
          obtain ⟨h2, h3⟩ := List.mem_filter.1 h1
          rcases hi3 e' (Array.mem_toList_iff.1 h2) with h | h
          · rw [h3] at h; cases h
          · rw [hLj] at h; exact h
        have hic : i < cs.length := by omega
        have hai : (ans.getD i default) = (ans.getD i default) := rfl
        -- those that are not ordered do not meet
        have hmeet : ∀ m, m < cs.length → m ≠ i → (L m = false ∧ m < i ∨ L m = true ∧ i < m) →
            (∀ d, (cs.getD m default).dst = some d → d ∉ (cs.getD i default).looks) ∧ (∀ d d', (cs.getD m default).dst = some d → (cs.getD i default).dst = some d' → d ≠ d') ∧
            (∀ q, (ps.getD m (.junk, none)).2 = some q → inTb (ans.getD i default).T q.1 = false) ∧ (∀ q q', (ps.getD m (.junk, none)).2 = some q → (ps.getD i (.junk, none)).2 = some q' → q.1 ≠ q'.1) := by
          intro m hm hne hor
          have hWm := (hE m hm).2
          have hWi := (hE i hic).2
          rcases hor with ⟨hLm, hlt⟩ | ⟨hLm, hlt⟩
          · rcases hpair m i hlt hic with hA | hC
            · have := hanc L hdown' i m hA (.inr hbefore)
              rw [hLm] at this; cases this
            · obtain ⟨c1, c2, c3, c4, c5, c6⟩ := compat_spec hC
              exact ⟨c1, c3, fun q hq => c4 _ (hWm q hq), fun q q' hq hq' e => c6 _ (hWm q hq) (by rw [e]; exact hWi q' hq')⟩
          · rcases hpair i m hlt hm with hA | hC
            · have := hanc L hdown' m i hA (.inl hLm)
              rw [hLi] at this; cases this
            · obtain ⟨c1, c2, c3, c4, c5, c6⟩ := compat_spec hC
              exact ⟨c2, fun d d' e e' x => c3 d' d e' e x.symm, fun q hq => c5 _ (hWm q hq), fun q q' hq hq' e => c6 _ (hWi q' hq') (by rw [← e]; exact hWm q hq)⟩
        -- the state, where the operation looks, is that of the text's order
        have hag : Ag (cs.getD i default).looks (ans.getD i default).T (AL (fun _ => true) cs ps st i) (AL L cs ps st cs.length) := by
          have h1 : ∀ m, m ≤ i → Ag (cs.getD i default).looks (ans.getD i default).T (AL (fun _ => true) cs ps st m) (AL L cs ps st m) := by
            intro m
            induction m with
            | zero => intro _; exact Ag.refl ..
            | succ m ihm =>
              intro hm
              have hA := ihm (by omega)
              rw [AL, AL, if_pos rfl]
              by_cases hLm : L m = true
              · rw [if_pos hLm]
                exact hA.both (by rw [AL_len, AL_len]) _ _
              · rw [if_neg hLm]
                obtain ⟨d1, _, d3, _⟩ := hmeet m (by omega) (by omega) (.inl ⟨by simpa using hLm, by omega⟩)
                exact hA.left d1 d3
          have h2 : ∀ m, i + m ≤ cs.length → Ag (cs.getD i default).looks (ans.getD i default).T (AL (fun _ => true) cs ps st i) (AL L cs ps st (i + m)) := by
            intro m
            induction m with
            | zero => intro _; exact h1 i (Nat.le_refl _)
            | succ m ihm =>
              intro hm
              have hA := ihm (by omega)
              rw [show i + (m + 1) = (i + m) + 1 by omega, AL]
              by_cases hLm : L (i + m) = true
              · rw [if_pos hLm]
                have hne : i + m ≠ i := fun e => by rw [e, hLi] at hLm; cases hLm
                obtain ⟨d1, _, d3, _⟩ := hmeet (i + m) (by omega) hne (.inr ⟨hLm, by omega⟩)
                exact hA.right d1 d3
              · rw [if_neg hLm]; exact hA
          have := h2 (cs.length - i) (by omega)
          rwa [show i + (cs.length - i) = cs.length by omega] at this
        -- the state behind it
        have hnext : ∀ m, i < m → m ≤ cs.length → AL (fun j => if j = i then true else L j) cs ps st m = (AL L cs ps st m).app (cs.getD i default) (ps.getD i (.junk, none)) := by
          have hlow : ∀ m, m ≤ i → AL (fun j => if j = i then true else L j) cs ps st m = AL L cs ps st m := by
            intro m
            induction m with
            | zero => intro _; rfl
            | succ m ihm =>
              intro hm
              rw [AL, AL, ihm (by omega)]
              have : ¬ m = i := by omega
              simp only [this, if_false]
          intro m
          induction m with
          | zero => intro h; omega
          | succ m ihm =>
            intro h1 h2
            by_cases hmi : m = i
            · subst hmi
              rw [AL, if_pos (by simp), hlow m (Nat.le_refl _), AL, if_neg (by rw [hLi]; simp)]
            · rw [AL, AL, ihm (by omega) (by omega)]
              simp only [hmi, if_false]
              by_cases hLm : L m = true
              · rw [if_pos hLm, if_pos hLm]
                obtain ⟨_, d2, _, d4⟩ := hmeet m (by omega) hmi (.inr ⟨hLm, by omega⟩)
                exact app_comm _ (fun d d' e e' x => d2 d' d e' e x.symm) (fun q q' e e' x => d4 q' q e' e x.symm)
              · rw [if_neg hLm, if_neg hLm]
        have hEi := (hE i hic).1
        rw [Nat.zero_add] at hEi
        have hE2 := hEi.mono hag.le (by
          intro t ht
          rw [hag.tm t ht]
          cases (ans.getD i default).T <;> rfl)
        have ho : ops[i]? = some ops[i] := Array.getElem?_eq_getElem hi1
        refine hE2.sound hΓ (fun e => hq e _ (by rw [List.getD_eq_getElem?_getD, List.getElem?_eq_getElem hic]; exact List.getElem_mem hic)) ho (hc i _ ho) (hS.done (D' := fun j => L j = true) fun j hj => by rw [← hLj]; exact hj) (by rw [hLi]; simp) hfn ?_
        intro X' H' a' w' hS'
        refine ih (listed.setIfInBounds i true) (by simpa using hsz) ?_ ?_ (X := X') (H := H') ?_
        · intro j o hoj hj e he
          have hset : ∀ j, (listed.setIfInBounds i true).getD j false = if j = i then true else L j := by
            intro j
            rw [Array.getD_eq_getD_getElem?, Array.getElem?_setIfInBounds]
            by_cases hji : i = j
            · subst hji; rw [if_pos rfl, if_pos (by rw [hsz]; exact hi1), if_pos rfl]; rfl
            · rw [if_neg hji, if_neg (fun x => hji x.symm), ← hLj, Array.getD_eq_getD_getElem?]
          rw [hset] at hj ⊢
          by_cases hji : j = i
          · subst hji
            have := hbefore o hoj e he
            split
            · rfl
            · exact this
          · rw [if_neg hji] at hj
            have := hdown' j o hoj hj e he
            split
            · rfl
            · exact this
        · have hset : ∀ j, (listed.setIfInBounds i true).getD j false = if j = i then true else L j := by
            intro j
            rw [Array.getD_eq_getD_getElem?, Array.getElem?_setIfInBounds]
            by_cases hji : i = j
            · subst hji; rw [if_pos rfl, if_pos (by rw [hsz]; exact hi1), if_pos rfl]; rfl
            · rw [if_neg hji, if_neg (fun x => hji x.symm), ← hLj, Array.getD_eq_getD_getElem?]
          have := filter_lt (p := fun j => !listed.getD j false) (q := fun j => !(listed.setIfInBounds i true).getD j false) (i := i) (by rw [hLj, hLi]; rfl) (by rw [hset, if_pos rfl]; rfl) (by
            intro j hj
            rw [hset] at hj
            rw [hLj]
            by_cases hji : j = i
            · rw [if_pos hji] at hj; cases hj
            · rw [if_neg hji] at hj; exact hj) (List.mem_range.2 hi1)
          omega
        · have hset : (fun j => (listed.setIfInBounds i true).getD j false) = fun j => if j = i then true else L j := by
            funext j
            rw [Array.getD_eq_getD_getElem?, Array.getElem?_setIfInBounds]
            by_cases hji : i = j
            · subst hji; rw [if_pos rfl, if_pos (by rw [hsz]; exact hi1), if_pos rfl]; rfl
            · rw [if_neg hji, if_neg (fun x => hji x.symm), ← hLj, Array.getD_eq_getD_getElem?]
          rw [hset, hnext cs.length hic (Nat.le_refl _)]
          refine hS'.done fun j hj => ?_
          show (listed.setIfInBounds i true).getD j false = true
          rw [show (listed.setIfInBounds i true).getD j false = (if j = i then true else L j) from congrFun hset j]
          rcases hj with hj | rfl
          · split
            · rfl
            · exact hj
          · rw [if_pos rfl]
  intro X H a w hS
  have hz : ∀ j, (Array.replicate ops.size false).getD j false = false := by
    intro j
    rw [Array.getD_eq_getD_getElem?, Array.getElem?_replicate]
    split <;> rfl
  refine key ops.size (Array.replicate ops.size false) (by simp) (fun j o _ hj => by rw [hz] at hj; cases hj) ?_ (X := X) (H := H) ?_
  · have := List.length_filter_le (fun j => !(Array.replicate ops.size false).getD j false) (List.range ops.size)
    simpa using this
  · have hAL : ∀ m, AL (fun j => (Array.replicate ops.size false).getD j false) cs ps st m = st := by
      intro m
      induction m with
      | zero => rfl
      | succ m ih => rw [AL, if_neg (by rw [hz]; simp), ih]
    rw [hAL]
    exact hS.done fun j hj => hj.elim
end
end Go.Proofs.YtbpajecjaoefaaaGreat.V

/- The abstract machine: code, and what a function comes to. -/
namespace Go.Proofs.YtbpajecjaoefaaaGreat.V
open Go Go.RowKit

/-- What is kept: places, blocks. -/
abbrev Kp := List Nat × List Nat
inductive AC where
  | skip
  | reg (ops : List COp) (kp : Kp)
  | dreg (ops : List COp) (ans : List Ann) (kp : Kp)
  | seq (a b : AC)
  | cond (x : Opd) (a b : AC)
  | block (id : Nat) (a : AC)
  | loop (a : AC) (kp : Kp)
  | exit (id : Nat) (kp : Kp)
  | ret

def copOf (P : Program) (site : Option Nat) (ops : Array Oper) (o : Oper) : Option COp :=
  match comp P site o.type o.op with
  | some ao => match o.guard with
    | none => some ⟨o.dst, none, ao⟩
    | some (j, b) => match (ops[j]?).bind (·.dst) with
      | some t => some ⟨o.dst, some (t, b), ao⟩
      | none => none
  | none => none
theorem copOf_is {P : Program} {site : Option Nat} {ops : Array Oper} {o : Oper} {c : COp} (h : copOf P site ops o = some c) : IsC P site ops o c := by
  unfold copOf at h
  split at h
  · rename_i ao h1
    split at h
    · rename_i h2; injection h with h; subst h
      exact ⟨rfl, h1, by rw [h2]; trivial⟩
    · rename_i j b h2
      split at h
      · rename_i t h3; injection h with h; subst h
        exact ⟨rfl, h1, by rw [h2]; exact ⟨h3, rfl⟩⟩
      · cases h
  · cases h
def findSite (p : Nat × Nat) : List (Nat × Nat × Nat) → Option Nat
  | [] => none
  | q :: qs => if p.1 = q.1 ∧ p.2 = q.2.1 then some q.2.2 else findSite p qs
def copsOf (P : Program) (sites : List (Nat × Nat × Nat)) (rid : Nat) (ops : Array Oper) : Nat → List Oper → Option (List COp)
  | _, [] => some []
  | i, o :: os => match copOf P (findSite (rid, i) sites) ops o, copsOf P sites rid ops (i + 1) os with
    | some c, some cs => some (c :: cs)
    | _, _ => none
def kpOf (rid : Nat) : List (Nat × Kp) → Kp
  | [] => ([], [])
  | p :: ps => if p.1 = rid then p.2 else kpOf rid ps
def annsOf (rid : Nat) : List (Nat × List Ann) → List Ann
  | [] => []
  | p :: ps => if p.1 = rid then p.2 else annsOf rid ps
/-- What the program that prints says of a function: where blocks are made; what is kept behind a region, at a loop's head, behind a block; what operations touch. -/
structure Anno where
  ns : Nat
  sites : List (Nat × Nat × Nat)
  reg : List (Nat × Kp)
  loop : List (Nat × Kp)
  blk : List (Nat × Kp)
  ann : List (Nat × List Ann)
def compile (P : Program) (A : Anno) : Code → Option AC
  | .skip => some .skip
  | .region id ops false => (copsOf P A.sites id ops 0 ops.toList).map fun cs => .reg cs (kpOf id A.reg)
  | .region id ops true => match copsOf P A.sites id ops 0 ops.toList with
    | some cs => if orderOK (ops.toList.map edges) cs (annsOf id A.ann) then some (.dreg cs (annsOf id A.ann) (kpOf id A.reg)) else none
    | none => none
  | .seq a b => match compile P A a, compile P A b with | some a, some b => some (.seq a b) | _, _ => none
  | .cond x a b => match opd x, compile P A a, compile P A b with | some x, some a, some b => some (.cond x a b) | _, _, _ => none
  | .block id (.loop a) => (compile P A a).map fun a => .block id (.loop a (kpOf id A.loop))
  | .block id a => (compile P A a).map (.block id)
  | .exit id => some (.exit id (kpOf id A.blk))
  | .ret => some .ret
  | _ => none

def lk (j : Nat) : List (Nat × AV) → AV
  | [] => .junk
  | p :: l => if j = p.1 then p.2 else lk j l
/-- Operations one after the other. -/
inductive Sq (Γ : Ctx) : Nat → List COp → St → St → Prop
  | nil {i : Nat} {st : St} : Sq Γ i [] st st
  | consX {i : Nat} {c : COp} {cs : List COp} {st st' : St} {f : Nat} {xs : List Opd} {R : Nat → St → List AV → AV → List (Option Blk) → Prop} {r : AV} {M' : List (Option Blk)} (hg : c.on st true) (hc : c.ao = .call f xs) (hR : Γ.sp f = some R) (h : R i st (xs.map st.ev) r M') (t : Sq Γ (i + 1) cs ({ st with M := M' }.put c.dst r) st') : Sq Γ i (c :: cs) st st'
  | cons {i : Nat} {c : COp} {cs : List COp} {st st' : St} {r : AV} {M' : List (Option Blk)} (h : Eff Γ i c st r M') (t : Sq Γ (i + 1) cs ({ st with M := M' }.put c.dst r) st') : Sq Γ i (c :: cs) st st'

/-- What is kept, in the order of the list; all else falls away. -/
def mkT (n : Nat) (l : List (Nat × AV)) : List AV := (List.range n).map fun j => lk j l
def St.keep (st : St) (kp : Kp) : St := { st with tm := mkT st.tm.length (kp.1.map fun j => (j, st.tm.getD j .junk)), M := maskM kp.2 0 st.M }

/-- What a state says less than another one. -/
def Wk (st st1 : St) : Prop := ∀ {s0 : Nat} {S : Nat → Nat → Prop} {w0 : Base} {D : Nat → Prop} {X : Claims} {H : Heads} {a : Act} {w : World}, (∀ id b, ¬ S id b) → Sim s0 S w0 D X H st a w → ∃ X' H', Sim s0 S w0 D X' H' st1 a w
/-- What code does to a state. -/
inductive Ex (Γ : Ctx) : AC → St → Exit → St → Prop
  | skip {st : St} : Ex Γ .skip st .normal st
  | reg {ops : List COp} {kp : Kp} {st st' : St} (h : Sq Γ 0 ops st st') : Ex Γ (.reg ops kp) st .normal (St.keep { st' with g := st'.g + 1 } kp)
  | dreg {ops : List COp} {ans : List Ann} {kp : Kp} {st st' : St} {ps : List (AV × U)} (h : DSq Γ 0 ops ans st ps st') : Ex Γ (.dreg ops ans kp) st .normal (St.keep { st' with g := st'.g + 1 } kp)
  | seqN {a b : AC} {st s1 s2 : St} {e : Exit} (h : Ex Γ a st .normal s1) (t : Ex Γ b s1 e s2) : Ex Γ (.seq a b) st e s2
  | seqX {a b : AC} {st s1 : St} {e : Exit} (h : Ex Γ a st e s1) (hn : e ≠ .normal) : Ex Γ (.seq a b) st e s1
  | cond {x : Opd} {a b : AC} {st s1 : St} {e : Exit} {y : Bool} (hx : st.ev x = .lit (.bool y)) (h : Ex Γ (if y then a else b) st e s1) : Ex Γ (.cond x a b) st e s1
  | blockN {id : Nat} {a : AC} {st s1 : St} (h : Ex Γ a st .normal s1) : Ex Γ (.block id a) st .normal s1
  | blockX {id : Nat} {a : AC} {st s1 : St} (h : Ex Γ a st (.exit id) s1) : Ex Γ (.block id a) st .normal s1
  | blockO {id j : Nat} {a : AC} {st s1 : St} (h : Ex Γ a st (.exit j) s1) (hj : j ≠ id) : Ex Γ (.block id a) st (.exit j) s1
  | blockR {id : Nat} {a : AC} {st s1 : St} (h : Ex Γ a st .ret s1) : Ex Γ (.block id a) st .ret s1
  | loopN {a : AC} {kp : Kp} {st s1 s2 : St} {e : Exit} (h : Ex Γ a (st.keep kp) .normal s1) (t : Ex Γ (.loop a kp) s1 e s2) : Ex Γ (.loop a kp) st e s2
  | loopX {a : AC} {kp : Kp} {st s1 : St} {e : Exit} (h : Ex Γ a (st.keep kp) e s1) (hn : e ≠ .normal) : Ex Γ (.loop a kp) st e s1
  | exit {id : Nat} {kp : Kp} {st : St} : Ex Γ (.exit id kp) st (.exit id) (st.keep kp)
  | ret {st : St} : Ex Γ .ret st .ret st
  | wk {ac : AC} {st s1 s2 : St} {e : Exit} (h : Wk st s1) (t : Ex Γ ac s1 e s2) : Ex Γ ac st e s2

section
variable {P : Program} {s0 : Nat} {S : Nat → Nat → Prop} {w0 : Base}

/-- What holds behind code that ended so. -/
def After (s0 : Nat) (S : Nat → Nat → Prop) (w0 : Base) (e : Exit) (st : St) : Exit → Act → World → Prop :=
  fun e' a w => e' = e ∧ ∃ X H, Sim s0 S w0 (fun _ => False) X H st a w

theorem mkT_at (n : Nat) (l : List (Nat × AV)) (j : Nat) (x : AV) (h : (mkT n l)[j]? = some x) : j < n ∧ x = lk j l := by
  unfold mkT at h
  rw [List.getElem?_map] at h
  by_cases hj : j < n
  · rw [List.getElem?_range hj] at h
    injection h with h
    exact ⟨hj, h.symm⟩
  · rw [List.getElem?_eq_none (by simp; omega)] at h; cases h
theorem lk_map (tm : List AV) (j : Nat) : ∀ (ks : List Nat), lk j (ks.map fun j => (j, tm.getD j .junk)) = .junk ∨ lk j (ks.map fun j => (j, tm.getD j .junk)) = tm.getD j .junk
  | [] => .inl rfl
  | k :: ks => by
    simp only [List.map_cons, lk]
    split
    · rename_i e; subst e; exact .inr rfl
    · exact lk_map tm j ks
theorem Sim.keep {D : Nat → Prop} {X : Claims} {H : Heads} {a : Act} {w : World} {st : St} (h : Sim s0 S w0 D X H st a w) (kp : Kp) : Sim s0 S w0 D X H (st.keep kp) a w := by
  have hM : ∀ id B, (st.keep kp).M[id]? = some (some B) → st.M[id]? = some (some B) := fun id B hB => (maskM_at kp.2 st.M 0 id B hB).2
  refine { h with sz := by simp [St.keep, mkT]; exact h.sz, tm := ?_, blks := fun id B hB => h.blks id B (hM id B hB), inj := fun i j B B' v v' b hi hj => h.inj i j B B' v v' b (hM i B hi) (hM j B' hj) }
  intro j x hx
  obtain ⟨hj, rfl⟩ := mkT_at _ _ _ _ hx
  rcases lk_map st.tm j kp.1 with e | e
  · rw [e]; exact .junk _
  · rw [e, List.getD_eq_getElem?_getD, List.getElem?_eq_getElem hj]
    exact h.tm j _ (List.getElem?_eq_getElem hj)

theorem copsOf_at {sites : List (Nat × Nat × Nat)} {rid : Nat} {ops : Array Oper} : ∀ (os : List Oper) (i : Nat) (cs : List COp), copsOf P sites rid ops i os = some cs →
    cs.length = os.length ∧ ∀ (j : Nat) (o : Oper) (c : COp), os[j]? = some o → cs[j]? = some c → IsC P (findSite (rid, i + j) sites) ops o c
  | [], i, cs, h => by simp only [copsOf, Option.some.injEq] at h; subst h; exact ⟨rfl, fun j o c h => by simp at h⟩
  | o :: os, i, cs, h => by
    simp only [copsOf] at h
    split at h
    · rename_i c cs' h1 h2
      injection h with h; subst h
      obtain ⟨l1, l2⟩ := copsOf_at os (i + 1) cs' h2
      refine ⟨by simp [l1], fun j o' c' a b => ?_⟩
      cases j with
      | zero => simp at a b; subst a; subst b; exact copOf_is h1
      | succ j =>
        have := l2 j o' c' (by simpa using a) (by simpa using b)
        rw [show i + (j + 1) = i + 1 + j by omega]; exact this
    · cases h

/-- Does code neither make nor turn anything? -/
def quietX (Γ : Ctx) : AC → Bool
  | .reg ops _ => ops.all fun c => quietC Γ c.ao
  | .dreg ops _ _ => ops.all fun c => quietC Γ c.ao
  | .seq a b => quietX Γ a && quietX Γ b
  | .cond _ a b => quietX Γ a && quietX Γ b
  | .block _ a => quietX Γ a
  | .loop a _ => quietX Γ a
  | _ => true
theorem Sq.sound {Γ : Ctx} (hΓ : CtxOK P Γ) (hfn : ∀ f, (Γ f).isSome = true → ∀ (vals : Array Value) (w : World), (callFunc f vals).run P w = .ok (.enter f vals) w) {ops : Array Oper} {rid : Nat} {sites : List (Nat × Nat × Nat)} {Q : Exit → Act → World → Prop} :
    ∀ {i : Nat} {cs : List COp} {st st' : St}, Sq Γ i cs st st' → (w0.q = true → ∀ c ∈ cs, quietC Γ c.ao = true) → ∀ {X : Claims} {H : Heads} {a : Act} {w : World}, Sim s0 S w0 (fun j => j < i) X H st a w →
    (∀ (j : Nat) (c : COp), cs[j]? = some c → ∃ o, ops[i + j]? = some o ∧ IsC P (findSite (rid, i + j) sites) ops o c) → (i + cs.length = ops.size) →
    (∀ X' H' a' w', Sim s0 S w0 (fun j => j < ops.size) X' H' st' a' w' → Q .normal a' w') → wpOps P ops Q ((List.range' i cs.length)) a w := by
  intro i cs st st' hsq
  induction hsq with
  | nil =>
    rename_i i st
    intro _ X H a w h _ hl k
    simp only [List.length_nil, Nat.add_zero] at hl
    subst hl
    simp only [List.length_nil, List.range'_zero, wpOps]
    exact k X H a w h
  | consX hg hcl hG hR t ih =>
    rename_i i c cs st st' f xs R r M'
    intro hq X H a w h hc hl k
    rw [List.length_cons, List.range'_succ, wpOps_cons]
    obtain ⟨o, ho, hco⟩ := hc 0 c rfl
    rw [Nat.add_zero] at ho hco
    have next : ∀ X' H' a' w', Sim s0 S w0 (fun j => j < i ∨ j = i) X' H' ({ st with M := M' }.put c.dst r) a' w' → wpOps P ops Q (List.range' (i + 1) cs.length) a' w' := by
      intro X' H' a' w' h'
      refine ih (fun e c' hc' => hq e c' (List.mem_cons_of_mem _ hc')) (h'.done fun j hj => by omega) ?_ (by simp at hl; omega) k
      intro j c' hj
      obtain ⟨o', ho', hc'⟩ := hc (j + 1) c' (by simpa using hj)
      exact ⟨o', by rw [show i + 1 + j = i + (j + 1) by omega]; exact ho', by rw [show i + 1 + j = i + (j + 1) by omega]; exact hc'⟩
    unfold wpOp
    rw [ho]
    simp only
    rw [hco.wanted h hg]
    simp only [if_true]
    refine .inl ?_
    have hao := hco.ao
    rw [hcl] at hao
    obtain ⟨ys, tys, hop, hys⟩ := comp_call hao
    obtain ⟨i1, i2⟩ := opds_some hys
    obtain ⟨hcon, hnq, hent⟩ := hΓ.2 f R hG
    have hrun : (execOp a.eval o).run P w = .ok (.enter f (ys.map a.eval)) w := by
      have := hent (ys.map a.eval) w
      simp only [execOp, hop, resolve, Deferred.ofValue, Act.eval, invoke, Sem.run_bind, Sem.run_pure, Result.andThen_ok]
      simpa using this
    unfold Oper.wp
    rw [hrun]
    simp only [Oper.upon]
    have hcon' := hcon i st (xs.map st.ev) r M' hR (ys.map a.eval) (by cases e1 : w0.q with | false => rfl | true => have := hq e1 _ (List.mem_cons_self ..); rw [hcl] at this; simp only [quietC, hnq] at this; cases this) h (Nat.lt_irrefl i) ⟨by simp [← i1], by
      intro j y u hy hu
      rw [Array.toList_map, List.getElem?_map] at hu
      rw [List.getElem?_map] at hy
      cases e1 : ys.toList[j]? with
      | none => rw [e1] at hu; cases hu
      | some z =>
        rw [e1] at hu; injection hu with hu; subst hu
        cases e2 : xs[j]? with
        | none => rw [e2] at hy; cases hy
        | some q =>
          rw [e2] at hy; injection hy with hy; subst hy
          exact h.ev (i2 j z q e1 e2)⟩
    refine hcon'.mono ?_
    rintro e w' ⟨v, X', H', rfl, hS', hC⟩
    simp only
    rw [hco.dst]
    exact next X' H' _ _ (hS'.put c.dst hC)
  | cons he t ih =>
    rename_i i c cs st st' r M'
    intro hq X H a w h hc hl k
    rw [List.length_cons, List.range'_succ, wpOps_cons]
    obtain ⟨o, ho, hco⟩ := hc 0 c rfl
    rw [Nat.add_zero] at ho hco
    refine he.sound hΓ (fun e => hq e _ (List.mem_cons_self ..)) ho hco h (Nat.lt_irrefl i) hfn ?_
    intro X' H' a' w' h'
    refine ih (fun e c' hc' => hq e c' (List.mem_cons_of_mem _ hc')) (h'.done fun j hj => ?_) ?_ (by simp at hl; omega) k
    · rcases hj with hj | hj <;> omega
    · intro j c' hj
      obtain ⟨o', ho', hc'⟩ := hc (j + 1) c' (by simpa using hj)
      exact ⟨o', by rw [show i + 1 + j = i + (j + 1) by omega]; exact ho', by rw [show i + 1 + j = i + (j + 1) by omega]; exact hc'⟩

/-- Code and its own form: a loop comes inside its block alone. -/
def Cmp (P : Program) (A : Anno) (code : Code) (ac : AC) : Prop := compile P A code = some ac ∨ ∃ c a kp, code = .loop c ∧ ac = .loop a kp ∧ compile P A c = some a

theorem omap {α : Type} {x : Option α} {f : α → AC} {y : AC} (hx : x.map f = some y) : ∃ z, x = some z ∧ f z = y := by
  cases x with
  | none => cases hx
  | some z => exact ⟨z, rfl, by injection hx⟩

theorem compile_block {A : Anno} {id : Nat} {c : Code} {ac : AC} (h : compile P A (.block id c) = some ac) : ∃ a, ac = .block id a ∧ Cmp P A c a := by
  cases c <;> simp only [compile] at h
  case loop c' =>
    obtain ⟨a, h1, rfl⟩ := omap h
    exact ⟨_, rfl, .inr ⟨_, _, _, rfl, rfl, h1⟩⟩
  case region id' ops d =>
    cases d <;> simp only [compile] at h <;> (obtain ⟨a, h1, rfl⟩ := omap h; exact ⟨a, rfl, .inl (by simp only [compile]; exact h1)⟩)
  case block id' c' => obtain ⟨a, h1, rfl⟩ := omap h; exact ⟨a, rfl, .inl h1⟩
  all_goals first
    | (obtain ⟨a, h1, rfl⟩ := omap h; exact ⟨a, rfl, .inl (by simp only [compile]; exact h1)⟩)
    | cases h

/-- Of which form the code is. -/
theorem compile_inv {A : Anno} {code : Code} {ac : AC} (h : compile P A code = some ac) : match ac with
    | .skip => code = .skip
    | .reg cs kp => ∃ id ops, code = .region id ops false ∧ copsOf P A.sites id ops 0 ops.toList = some cs
    | .dreg cs ans kp => ∃ id ops, code = .region id ops true ∧ copsOf P A.sites id ops 0 ops.toList = some cs ∧ orderOK (ops.toList.map edges) cs ans = true
    | .seq a b => ∃ x y, code = .seq x y ∧ compile P A x = some a ∧ compile P A y = some b
    | .cond x a b => ∃ x' p q, code = .cond x' p q ∧ opd x' = some x ∧ compile P A p = some a ∧ compile P A q = some b
    | .block id a => ∃ c, code = .block id c ∧ Cmp P A c a
    | .loop .. => False
    | .exit id kp => code = .exit id
    | .ret => code = .ret := by
  cases code with
  | skip => simp only [compile, Option.some.injEq] at h; subst h; rfl
  | region id ops d =>
    cases d with
    | false =>
      simp only [compile] at h
      obtain ⟨cs, h1, rfl⟩ := omap h
      exact ⟨id, ops, rfl, h1⟩
    | true =>
      simp only [compile] at h
      split at h
      · rename_i cs h1
        split at h
        · rename_i h2; injection h with h; subst h; exact ⟨id, ops, rfl, h1, h2⟩
        · cases h
      · cases h
  | seq a b =>
    simp only [compile] at h
    split at h
    · rename_i h1 h2; injection h with h; subst h; exact ⟨a, b, rfl, h1, h2⟩
    · cases h
  | cond x a b =>
    simp only [compile] at h
    split at h
    · rename_i h1 h2 h3; injection h with h; subst h; exact ⟨x, a, b, rfl, h1, h2, h3⟩
    · cases h
  | block id c =>
    obtain ⟨a, rfl, h1⟩ := compile_block h
    exact ⟨c, rfl, h1⟩
  | exit id => simp only [compile, Option.some.injEq] at h; subst h; rfl
  | ret => simp only [compile, Option.some.injEq] at h; subst h; rfl
  | _ => simp only [compile] at h; cases h

theorem Ex.sound {Γ : Ctx} (hS0 : ∀ id b, ¬ S id b) (hmix : P.follows .mixedOrders = true) (hΓ : CtxOK P Γ) (hfn : ∀ f, (Γ f).isSome = true → ∀ (vals : Array Value) (w : World), (callFunc f vals).run P w = .ok (.enter f vals) w) {A : Anno} {ac : AC} {st st' : St} {e : Exit} (h : Ex Γ ac st e st') : (w0.q = true → quietX Γ ac = true) →
    ∃ n : Nat, ∀ (code : Code), Cmp P A code ac → ∀ {X : Claims} {H : Heads} {a : Act} {w : World}, Sim s0 S w0 (fun _ => False) X H st a w →
    code.wp P (After s0 S w0 e st') a w ∧ ∀ c0, code = .loop c0 → Code.rounds P c0 (After s0 S w0 e st') n a w := by
  have plain : ∀ {code : Code} {ac : AC}, Cmp P A code ac → (∀ a kp, ac ≠ .loop a kp) → compile P A code = some ac := by
    intro code ac hc hn
    rcases hc with hc | ⟨c, a, kp, _, rfl, _⟩
    · exact hc
    · exact absurd rfl (hn a kp)
  have noloop : ∀ {code : Code} {ac : AC}, compile P A code = some ac → ∀ c0, code = .loop c0 → False := by
    rintro code ac hc c0 rfl
    simp only [compile] at hc; cases hc
  induction h with
  | wk hw _ ih =>
    intro hq
    obtain ⟨n, ih⟩ := ih hq
    refine ⟨n, ?_⟩
    intro code hc X H a w hS
    obtain ⟨X', H', hS'⟩ := hw hS0 hS
    exact ih code hc hS'
  | skip =>
    intro _
    refine ⟨0, ?_⟩
    intro code hc X H a w hS
    have hc := plain hc (by intro _ _ e; cases e)
    have e : code = .skip := compile_inv hc
    subst e
    exact ⟨wp_skip ⟨rfl, X, H, hS⟩, fun c0 h => (noloop hc c0 h).elim⟩
  | reg hsq =>
    rename_i ops kp st st'
    intro hq
    have hq' : w0.q = true → ∀ c ∈ ops, quietC Γ c.ao = true := fun e => List.all_eq_true.1 (hq e)
    refine ⟨0, ?_⟩
    intro code hc X H a w hS
    have hc := plain hc (by intro _ _ e; cases e)
    obtain ⟨id, os, rfl, h1⟩ := compile_inv hc
    obtain ⟨l1, l2⟩ := copsOf_at _ _ _ h1
    refine ⟨wp_region ?_, fun c0 h => by cases h⟩
    have := hsq.sound (s0 := s0) (S := S) (w0 := w0) hΓ hfn (ops := os) (rid := id) (sites := A.sites) (Q := After s0 S w0 .normal (St.keep { st' with g := st'.g + 1 } kp)) hq' (hS.done fun j hj => hj.elim) ?_ (by simp [l1]) ?_
    · rw [show os.size = ops.length by simp [l1]]
      rw [List.range_eq_range']; exact this
    · intro j c hj
      have hjl : j < os.toList.length := by rw [← l1]; exact (List.getElem?_eq_some_iff.1 hj).1
      refine ⟨os.toList[j], ?_, l2 j _ c (List.getElem?_eq_getElem hjl) hj⟩
      rw [Nat.zero_add, ← Array.getElem?_toList]; exact List.getElem?_eq_getElem hjl
    · intro X' H' a' w' h'
      exact ⟨rfl, X', H', h'.next.keep _⟩
  | dreg hsq =>
    rename_i ops ans kp st st' ps
    intro hq
    have hq' : w0.q = true → ∀ c ∈ ops, quietC Γ c.ao = true := fun e => List.all_eq_true.1 (hq e)
    refine ⟨0, ?_⟩
    intro code hc X H a w hS
    have hc := plain hc (by intro _ _ e; cases e)
    obtain ⟨id, os, rfl, h1, hok⟩ := compile_inv hc
    obtain ⟨l1, l2⟩ := copsOf_at _ _ _ h1
    refine ⟨wp_region_any hmix ?_, fun c0 h => by cases h⟩
    refine hsq.sound (s0 := s0) (S := S) (w0 := w0) hq' hΓ hfn (site := fun j => findSite (id, j) A.sites) (by simp [l1]) ?_ hok ?_ hS.drew
    · intro j o ho
      have hj : j < os.toList.length := by simpa using (Array.getElem?_eq_some_iff.1 ho).1
      have := l2 j o (ops.getD j default) (by rw [Array.getElem?_toList]; exact ho) (by rw [List.getD_eq_getElem?_getD, List.getElem?_eq_getElem (by rw [l1]; exact hj)]; rfl)
      rw [Nat.zero_add] at this; exact this
    · intro X' H' a' w' h'
      exact ⟨rfl, X', H', h'.next.keep _⟩
  | seqN _ _ ih1 ih2 =>
    intro hq
    obtain ⟨_, ih1⟩ := ih1 fun e => (Bool.and_eq_true_iff.1 (hq e)).1
    obtain ⟨_, ih2⟩ := ih2 fun e => (Bool.and_eq_true_iff.1 (hq e)).2
    refine ⟨0, ?_⟩
    intro code hc X H a w hS
    have hc := plain hc (by intro _ _ e; cases e)
    obtain ⟨x, y, rfl, h1, h2⟩ := compile_inv hc
    refine ⟨wp_seq (wp_mono (ih1 x (.inl h1) hS).1 ?_), fun c0 h => by cases h⟩
    rintro e a' w' ⟨rfl, X', H', hS'⟩
    exact (ih2 y (.inl h2) hS').1
  | seqX _ hn ih1 =>
    intro hq
    obtain ⟨_, ih1⟩ := ih1 fun e => (Bool.and_eq_true_iff.1 (hq e)).1
    refine ⟨0, ?_⟩
    intro code hc X H a w hS
    have hc := plain hc (by intro _ _ e; cases e)
    obtain ⟨x, y, rfl, h1, h2⟩ := compile_inv hc
    refine ⟨wp_seq (wp_mono (ih1 x (.inl h1) hS).1 ?_), fun c0 h => by cases h⟩
    rintro e a' w' ⟨rfl, hX⟩
    cases e <;> first | exact absurd rfl hn | exact ⟨rfl, hX⟩
  | cond hx hE ih =>
    rename_i x a b st s1 e y
    intro hq
    obtain ⟨_, ih⟩ := ih fun e => by have := Bool.and_eq_true_iff.1 (hq e); cases y <;> first | exact this.1 | exact this.2
    refine ⟨0, ?_⟩
    intro code hc X H a' w hS
    have hc := plain hc (by intro _ _ e; cases e)
    obtain ⟨x', c1, c2, rfl, h1, h2, h3⟩ := compile_inv hc
    have hev := hS.ev h1
    rw [hx] at hev
    have hb := hev.lit'
    refine ⟨wp_cond (t := y) hb ?_, fun c0 h => by cases h⟩
    cases y
    · exact (ih c2 (.inl h3) hS).1
    · exact (ih c1 (.inl h2) hS).1
  | blockN _ ih | blockX _ ih | blockO _ hj ih | blockR _ ih =>
    intro hq
    obtain ⟨_, ih⟩ := ih hq
    refine ⟨0, ?_⟩
    intro code hc X H a w hS
    have hc := plain hc (by intro _ _ e; cases e)
    obtain ⟨c, rfl, h1⟩ := compile_inv hc
    refine ⟨wp_block (wp_mono (ih c h1 hS).1 ?_), fun c0 h => by cases h⟩
    rintro e a' w' ⟨rfl, hX⟩
    simp only [Exit.inBlock]
    first
      | exact ⟨rfl, hX⟩
      | (rw [if_pos rfl]; exact ⟨rfl, hX⟩)
      | (rw [if_neg hj]; exact ⟨rfl, hX⟩)
  | @loopN a0 kp st1 s1 s2 e1 _ _ ih1 ih2 =>
    intro hq
    obtain ⟨_, ih1⟩ := ih1 hq
    obtain ⟨n, ih2⟩ := ih2 hq
    refine ⟨n + 1, ?_⟩
    intro code hc X H a w hS
    rcases hc with hc | ⟨c, a1, kp1, rfl, e2, h1⟩
    · exact (compile_inv hc).elim
    · injection e2 with e2 e3; subst e2; subst e3
      have key : Code.rounds P c (After s0 S w0 e1 s2) (n + 1) a w := by
        refine wp_mono (ih1 c (.inl h1) (hS.keep _)).1 ?_
        rintro e a' w' ⟨rfl, X', H', hS'⟩
        exact (ih2 (.loop c) (.inr ⟨c, a0, kp, rfl, rfl, h1⟩) hS').2 c rfl
      exact ⟨wp_loop_rounds _ key, fun c0 h => by injection h with h; subst h; exact key⟩
  | @loopX a0 kp st1 s1 e1 _ hn ih =>
    intro hq
    obtain ⟨_, ih⟩ := ih hq
    refine ⟨1, ?_⟩
    intro code hc X H a w hS
    rcases hc with hc | ⟨c, a1, kp1, rfl, e2, h1⟩
    · exact (compile_inv hc).elim
    · injection e2 with e2 e3; subst e2; subst e3
      have key : Code.rounds P c (After s0 S w0 e1 s1) 1 a w := by
        refine wp_mono (ih c (.inl h1) (hS.keep _)).1 ?_
        rintro e a' w' ⟨rfl, hX⟩
        cases e <;> first | exact absurd rfl hn | exact ⟨rfl, hX⟩
      exact ⟨wp_loop_rounds 1 key, fun c0 h => by injection h with h; subst h; exact key⟩
  | exit =>
    intro _
    refine ⟨0, ?_⟩
    intro code hc X H a w hS
    have hc := plain hc (by intro _ _ e; cases e)
    have e : code = .exit _ := compile_inv hc
    subst e
    exact ⟨wp_exit ⟨rfl, X, H, hS.keep _⟩, fun c0 h => by cases h⟩
  | ret =>
    intro _
    refine ⟨0, ?_⟩
    intro code hc X H a w hS
    have hc := plain hc (by intro _ _ e; cases e)
    have e : code = .ret := compile_inv hc
    subst e
    exact ⟨wp_ret ⟨rfl, X, H, hS⟩, fun c0 h => by cases h⟩
end
end Go.Proofs.YtbpajecjaoefaaaGreat.V

/- The abstract machine: a function's contract out of what its code comes to. -/
namespace Go.Proofs.YtbpajecjaoefaaaGreat.V
open Go Go.RowKit

/-- Of memory that this call has made alone. -/
inductive Fr : AV → Prop
  | lit (v : Value) : Fr (.lit v)
  | frz {k n : Nat} {cs : List AV} (h : ∀ (j : Nat) (x : AV), cs[j]? = some x → Fr x) : Fr (.frz true k n cs)
  | frz0 {lab : Bool} {k : Nat} : Fr (.frz lab k 0 [])
  | agg {cs : List AV} (h : ∀ (j : Nat) (x : AV), cs[j]? = some x → Fr x) : Fr (.agg cs)
  | tup {cs : List AV} (h : ∀ (j : Nat) (x : AV), cs[j]? = some x → Fr x) : Fr (.tup cs)
  | ifc {t : Nat} {x : AV} (h : Fr x) : Fr (.ifc t x)

theorem Fr.sound {X : Claims} {s0 : Nat} {r : AV} {w : World} (hr : Fr r) (hX : ∀ b o v, X b o = some v → w.cell? ⟨b, o, none⟩ = some v) : ∀ {v : Value}, C X s0 H0 r v → C (newX s0 w) s0 H0 r v := by
  induction hr with
  | lit u => intro v h; cases h; exact .lit _
  | frz _ ih =>
    intro v h
    cases h with
    | frz0 => exact .frz0
    | frz hl h0 hn hc hv hx hC =>
      refine .frz hl h0 hn hc hv (fun j u hj => ?_) fun j x u a b => ih j x a (hC j x u a b)
      unfold newX
      rw [if_pos (hl rfl)]
      exact hX _ _ _ (hx j u hj)
  | frz0 => intro v h; cases h with
    | frz0 => exact .frz0
    | frz _ h0 => omega
  | agg _ ih => intro v h; cases h with
    | agg hv hC => exact .agg hv fun j x u a b => ih j x a (hC j x u a b)
  | tup _ ih => intro v h; cases h with
    | tup hv hC => exact .tup hv fun j x u a b => ih j x a (hC j x u a b)
  | ifc _ ih => intro v h; cases h with
    | ifc h => exact .ifc (ih h)

inductive RV where
  | tm (t : Nat)
  | cell (t n : Nat) (ag : Bool)
def rvOf (P : Program) : ResultVar → Option RV
  | .tmp t => some (.tm t)
  | .cell a t => match P.underlying t, P.info? t with | some d, some inf => some (.cell a inf.size (aggB d)) | _, _ => none
def rvsOf (P : Program) : List ResultVar → Option (List RV)
  | [] => some []
  | x :: xs => match rvOf P x, rvsOf P xs with | some y, some ys => some (y :: ys) | _, _ => none
def St.rv (st : St) : RV → Option AV
  | .tm t => some (st.tm.getD t .junk)
  | .cell t n ag => (astep 0 st (.load n ag (.r t))).map (·.1)
def St.rvs (st : St) : List RV → Option (List AV)
  | [] => some []
  | x :: xs => match st.rv x, st.rvs xs with | some y, some ys => some (y :: ys) | _, _ => none
def resAV : List AV → AV
  | [x] => x
  | xs => .tup xs

section
variable {P : Program} {s0 : Nat} {S : Nat → Nat → Prop} {w0 : Base} {D : Nat → Prop} {X : Claims} {H : Heads} {st : St} {a : Act} {w : World}

theorem Sim.loadVar (h : Sim s0 S w0 D X H st a w) {t : TypeId} {d : TypeDesc} {inf : TypeInfo} {j : Nat} (ht : P.underlying t = some d) (hinf : P.info? t = some inf) {r : AV} {M' : List (Option Blk)} (hs : astep 0 st (.load inf.size (aggB d) (.r j)) = some (r, M')) :
    ∃ v, (do Go.loadVar t (← asAddr (a.tmps.getD j undef)) : Sem Value).run P w = .ok v w ∧ C X s0 H r v := by
  simp only [astep] at hs
  have h1 := h.ev (x := .tmp j) (x' := .r j) rfl
  simp only [Act.eval] at h1
  generalize a.tmps.getD j undef = vx at h1 ⊢
  split at hs
  · rename_i cs hc
    obtain ⟨b, o, vs, rfl, hcs, hcell⟩ := h.place h1 hc
    split at hs
    · rename_i hl
      have hla := run_isAgg (P := P) (w := w) ht
      split at hs
      · rename_i hag1
        injection hs with hs; injection hs with e3 e4; subst e3; subst e4
        rw [hag1] at hla
        have hl2 := run_loadCells_list (P := P) w ⟨b, o, none⟩ (vs.take inf.size) (fun j u hj => by
          rw [List.getElem?_take] at hj
          split at hj
          · rw [add_at]; exact hcell j u hj
          · cases hj)
        rw [List.length_take, Nat.min_eq_left (by have := hcs.len; omega)] at hl2
        refine ⟨.agg (vs.take inf.size).toArray, ?_, .agg (by simp [hcs.len]) ?_⟩
        · simp [asAddr, Go.loadVar, hla, sizeOf, typeInfo, hinf, hl2]
        · intro j y u hy hu
          exact (hcs.take inf.size).at_ j y u hy (by simpa using hu)
      · rename_i hag1
        rw [show aggB d = false from by simpa using hag1] at hla
        split at hs
        · rename_i c rest hsz
          injection hs with hs; injection hs with e3 e4; subst e3; subst e4
          have hlen := hcs.len
          cases vs with
          | nil => simp at hlen
          | cons v0 vr =>
            have h0 := hcell 0 v0 rfl
            rw [Nat.add_zero] at h0
            exact ⟨v0, by simp [asAddr, Go.loadVar, hla, h0], hcs.at_ 0 c v0 rfl rfl⟩
        · cases hs
    · cases hs
  · cases hs

def rvRun (tmps : Array Value) : ResultVar → Sem Value
  | .tmp t => pure (tmps.getD t undef)
  | .cell b t => do Go.loadVar t (← asAddr (tmps.getD b undef))
theorem results_eq (fn : Func) (tmps : Array Value) : results fn tmps = (do let vs ← fn.results.mapM (rvRun tmps); pure (if h : vs.size = 1 then vs[0] else .tuple vs)) := rfl

theorem Sim.rvs (h : Sim s0 S w0 D X H st a w) : ∀ (rs : List ResultVar) (rs' : List RV) (xs : List AV), rvsOf P rs = some rs' → st.rvs rs' = some xs →
    ∃ vs, (rs.mapM (rvRun a.tmps)).run P w = .ok vs w ∧ Cs X s0 H xs vs
  | [], rs', xs, h1, h2 => by
    simp only [rvsOf, Option.some.injEq] at h1; subst h1
    simp only [St.rvs, Option.some.injEq] at h2; subst h2
    exact ⟨[], by simp, Cs.nil⟩
  | x :: rest, rs', xs, h1, h2 => by
    simp only [rvsOf] at h1
    split at h1
    · rename_i y ys e1 e2
      injection h1 with h1; subst h1
      simp only [St.rvs] at h2
      split at h2
      · rename_i z zs e3 e4
        injection h2 with h2; subst h2
        obtain ⟨vs, r1, r2⟩ := Sim.rvs h rest ys zs e2 e4
        cases x with
        | tmp t =>
          simp only [rvOf, Option.some.injEq] at e1; subst e1
          simp only [St.rv, Option.some.injEq] at e3; subst e3
          have hC := h.ev (x := .tmp t) (x' := .r t) rfl
          exact ⟨a.tmps.getD t undef :: vs, by simp only [List.mapM_cons, rvRun, Sem.run_bind, Sem.run_pure, Result.andThen_ok, r1], Cs.cons hC r2⟩
        | cell b t =>
          simp only [rvOf] at e1
          split at e1
          · rename_i d inf hd hinf
            injection e1 with e1; subst e1
            simp only [St.rv] at e3
            obtain ⟨⟨q, M'⟩, f1, f2⟩ := map_some e3
            simp only at f2; subst f2
            obtain ⟨v, g1, g2⟩ := h.loadVar hd hinf f1
            simp only [Sem.run_bind] at g1
            exact ⟨v :: vs, by simp only [List.mapM_cons, rvRun, Sem.run_bind, Sem.run_pure, Result.andThen_ok, r1, g1], Cs.cons g2 r2⟩
          · cases e1
      · cases h2
    · cases h1

theorem Sim.results (h : Sim s0 S w0 D X H st a w) {fn : Func} {rs' : List RV} {xs : List AV} (h1 : rvsOf P fn.results.toList = some rs') (h2 : st.rvs rs' = some xs) : ∃ v, (results fn a.tmps).run P w = .ok v w ∧ C X s0 H (resAV xs) v := by
  obtain ⟨vs, r1, r2⟩ := h.rvs fn.results.toList rs' xs h1 h2
  have hrun : (Go.results fn a.tmps).run P w = .ok (if hh : vs.toArray.size = 1 then vs.toArray[0] else .tuple vs.toArray) w := by
    rw [results_eq, Array.mapM_eq_mapM_toList]
    simp only [Sem.run_bind, Sem.run_map, r1, Result.andThen_ok, Sem.run_pure]
  refine ⟨_, hrun, ?_⟩
  by_cases hs : vs.toArray.size = 1
  · rw [dif_pos hs]
    simp only [List.size_toArray] at hs
    obtain ⟨v, rfl⟩ : ∃ v, vs = [v] := List.length_eq_one_iff.1 (by simpa using hs)
    obtain ⟨x, rfl⟩ : ∃ x, xs = [x] := List.length_eq_one_iff.1 (by have := r2.len; simpa using this.symm)
    exact r2.at_ 0 x v rfl rfl
  · rw [dif_neg hs]
    have hx : resAV xs = .tup xs := by
      have := r2.len
      simp only [List.size_toArray] at hs
      match xs with
      | [] => rfl
      | [x] => simp at this; exact absurd this hs
      | x :: y :: z => rfl
    rw [hx]
    exact .tup (by simpa using r2.len) fun j x v a b => r2.at_ j x v a (by simpa using b)

def st0 (ntmps : Nat) (nsites : Nat) (args : List AV) : St := { tm := args ++ List.replicate (ntmps - args.length) .junk, M := List.replicate nsites none, g := 0 }

/-- What a run of a function comes to. -/
def Run (Γ : Ctx) (ac : AC) (rs : List RV) (ntmps nsites : Nat) (args : List AV) (r : AV) : Prop :=
  ∃ e st' xs, Ex Γ ac (st0 ntmps nsites args) e st' ∧ (e = .ret ∨ e = .normal) ∧ st'.rvs rs = some xs ∧ Cv st' true true (resAV xs) r

theorem con_of {Γ : Ctx} {qt : Bool} (hmix : P.follows .mixedOrders = true) (hΓ : CtxOK P Γ) (hfn : ∀ f, (Γ f).isSome = true → ∀ (vals : Array Value) (w : World), (callFunc f vals).run P w = .ok (.enter f vals) w) {f : FuncId} {fn : Func} {code : Code} {A : Anno} {ac : AC} {rs : List RV} {leak : Bool}
    {R : List AV → AV → Prop} (hf : P.funcs[f]? = some fn) (hb : fn.body = some code) (hc : compile P A code = some ac) (hrs : rvsOf P fn.results.toList = some rs)
    (hqt : qt = true → quietX Γ ac = true) (h : ∀ args r, R args r → Run Γ ac rs fn.ntmps A.ns args r ∧ (leak = false → Fr r)) : Con P leak f R qt := by
  intro args r hR X w vals hX hargs
  obtain ⟨⟨e, st', xs, hE, he, hxs, hcv⟩, hfr⟩ := h args r hR
  refine calls_of_wp hf hb ?_
  have hlen : vals.size = args.length := by simpa using hargs.len
  have hSim : Sim w.heap.size (fun _ _ => False) ⟨w, X, qt⟩ (fun _ => False) X H0 (st0 fn.ntmps A.ns args) { tmps := vals ++ Array.replicate (fn.ntmps - vals.size) undef, defers := [] } w := by
    refine { sz := by simp [st0, hlen], tm := ?_, df := rfl, claims := hX, blks := ?_, inj := ?_, s0_eq := rfl, x0 := fun b o v h _ => h, size := Nat.le_refl _, os := rfl, tape := rfl, output := rfl, old := fun _ _ _ => rfl, gens := fun _ _ _ _ => rfl, inv := fun _ => ⟨0, rfl⟩ }
    · intro j x hj
      simp only [st0] at hj
      by_cases hjl : j < args.length
      · rw [List.getElem?_append_left hjl] at hj
        have hv : vals.toList[j]? = some vals[j] := by rw [Array.getElem?_toList]; exact Array.getElem?_eq_getElem (by omega)
        have := hargs.at_ j x _ hj hv
        rw [Array.getD_eq_getD_getElem?, Array.getElem?_append_left (by omega), Array.getElem?_eq_getElem (by omega)]
        exact this
      · rw [List.getElem?_append_right (by omega), List.getElem?_replicate] at hj
        split at hj
        · injection hj with hj; subst hj; exact .junk _
        · cases hj
    · intro id B hM
      simp only [st0, List.getElem?_replicate] at hM
      split at hM <;> simp at hM
    · intro i j B B' v v' b hM
      simp only [st0, List.getElem?_replicate] at hM
      split at hM <;> simp at hM
  obtain ⟨n, hsnd⟩ := hE.sound (s0 := w.heap.size) (S := fun _ _ => False) (w0 := ⟨w, X, qt⟩) (fun _ _ h => h) hmix hΓ hfn (A := A) hqt
  refine wp_mono (hsnd code (.inl hc) hSim).1 ?_
  rintro e' a' w' ⟨rfl, X', H', hS⟩
  have hB : Below w.heap.size w w' := ⟨hS.os, hS.tape, hS.output, hS.size, fun k hk => hS.old k hk (by simp)⟩
  have fin : a'.defers = [] ∧ ∃ v, (results fn a'.tmps).run P w' = .ok v w' ∧ ∃ v1 Y, Ending.returned v = .returned v1 ∧ (∀ b o u, Y b o = some u → w.heap.size ≤ b ∧ w'.cell? ⟨b, o, none⟩ = some u) ∧ C (if leak then orX X Y else Y) w.heap.size H0 r v1 ∧ Below w.heap.size w w' ∧ (qt = true → ∃ n, w' = w.drewN n) := by
    obtain ⟨v, hv, hCv⟩ := hS.results hrs hxs
    refine ⟨hS.df, v, hv, v, newX w.heap.size w', rfl, ?_, ?_, hB, hS.inv⟩
    · intro b o u hu
      unfold newX at hu
      split at hu
      · rename_i hle; exact ⟨hle, hu⟩
      · cases hu
    · -- all that may be said of what is handed back
      have hZ : C (orX X (newX w.heap.size w')) w.heap.size H0 r v := by
        refine hcv.sound (v := v) hS hCv ?_ ?_ (fun _ => ⟨Nat.le_refl _, by simp⟩)
        · intro b o u hu
          unfold orX
          by_cases hb : b < w.heap.size
          · have := hS.x0 b o u hu hb
            simp only at this
            rw [this]
          · have hcell := hS.claims b o u hu
            cases hx : X b o with
            | none => simp only [newX]; rw [if_pos (by omega)]; exact hcell
            | some z => have := World.block_lt_of_cell? w _ (hX b o z hx); simp only at this; omega
        · intro _ b o u hu hor
          rcases hor with ⟨_, h⟩ | hle
          · exact h.elim
          · unfold orX
            cases hx : X b o with
            | none => simp only [newX]; rw [if_pos hle]; exact hu
            | some z => have := World.block_lt_of_cell? w _ (hX b o z hx); simp only at this; omega
      cases leak
      · simp only [Bool.false_eq_true, if_false]
        refine (hfr rfl).sound ?_ hZ
        intro b o u hu
        unfold orX at hu
        split at hu
        · rename_i z hz
          injection hu with hu; subst hu
          have hlt := World.block_lt_of_cell? w _ (hX b o _ hz)
          exact (hB.cell (p := ⟨b, o, none⟩) hlt).trans (hX b o _ hz)
        · unfold newX at hu
          split at hu
          · exact hu
          · cases hu
      · simpa using hZ
  rcases he with rfl | rfl <;> exact fin
end
end Go.Proofs.YtbpajecjaoefaaaGreat.V
