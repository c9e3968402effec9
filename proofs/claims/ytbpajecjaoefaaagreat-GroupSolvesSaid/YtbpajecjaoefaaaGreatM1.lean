/- Texts of the machine V and of the proofs over it, one behind the other. -/
import Derived.Test.YtbpajecjaoefaaaGreatM0
import Derived.IntWalk
set_option linter.unusedVariables false
set_option linter.unusedSimpArgs false
set_option linter.defProp false
/- The abstract machine: how a run is shown, step by step. -/
namespace Go.Proofs.YtbpajecjaoefaaaGreat.V
open Go Go.RowKit

/-- Code that comes to Q. -/
def W (Γ : Ctx) (ac : AC) (st : St) (Q : Exit → St → Prop) : Prop := ∃ e st', Ex Γ ac st e st' ∧ Q e st'
def thn (K : St → Prop) (Q : Exit → St → Prop) : Exit → St → Prop
  | .normal, s => K s
  | e, s => Q e s
def inB (id : Nat) (Q : Exit → St → Prop) : Exit → St → Prop
  | .normal, s => Q .normal s
  | .exit j, s => if j = id then Q .normal s else Q (.exit j) s
  | .ret, s => Q .ret s
  | _, _ => False

section
variable {Γ : Ctx} {a b : AC} {st : St} {Q : Exit → St → Prop}
theorem W.skip (h : Q .normal st) : W Γ .skip st Q := ⟨_, _, .skip, h⟩
theorem W.seq (h : W Γ a st (thn (fun s => W Γ b s Q) Q)) : W Γ (.seq a b) st Q := by
  obtain ⟨e, s, h1, h2⟩ := h
  cases e with
  | normal => obtain ⟨e', s', h3, h4⟩ := h2; exact ⟨e', s', .seqN h1 h3, h4⟩
  | exit id => exact ⟨_, s, .seqX h1 (by simp), h2⟩
  | goto l => exact ⟨_, s, .seqX h1 (by simp), h2⟩
  | ret => exact ⟨_, s, .seqX h1 (by simp), h2⟩
  | panic c => exact ⟨_, s, .seqX h1 (by simp), h2⟩
  | outgrown => exact ⟨_, s, .seqX h1 (by simp), h2⟩
theorem W.cond {x : Opd} {y : Bool} (hx : st.ev x = .lit (.bool y)) (h : W Γ (if y then a else b) st Q) : W Γ (.cond x a b) st Q := by
  obtain ⟨e, s, h1, h2⟩ := h
  exact ⟨e, s, .cond hx h1, h2⟩
theorem W.condT {x : Opd} (hx : st.ev x = .lit (.bool true)) (h : W Γ a st Q) : W Γ (.cond x a b) st Q := W.cond hx h
theorem W.condF {x : Opd} (hx : st.ev x = .lit (.bool false)) (h : W Γ b st Q) : W Γ (.cond x a b) st Q := W.cond hx h
theorem W.block {id : Nat} (h : W Γ a st (inB id Q)) : W Γ (.block id a) st Q := by
  obtain ⟨e, s, h1, h2⟩ := h
  cases e with
  | normal => exact ⟨_, s, .blockN h1, h2⟩
  | exit j =>
    simp only [inB] at h2
    split at h2
    · rename_i e; subst e; exact ⟨_, s, .blockX h1, h2⟩
    · rename_i e; exact ⟨_, s, .blockO h1 e, h2⟩
  | ret => exact ⟨_, s, .blockR h1, h2⟩
  | goto l => exact h2.elim
  | panic c => exact h2.elim
  | outgrown => exact h2.elim
theorem W.loop {kp : Kp} (h : W Γ a (st.keep kp) (thn (fun s => W Γ (.loop a kp) s Q) Q)) : W Γ (.loop a kp) st Q := by
  obtain ⟨e, s, h1, h2⟩ := h
  cases e with
  | normal => obtain ⟨e', s', h3, h4⟩ := h2; exact ⟨e', s', .loopN h1 h3, h4⟩
  | exit id => exact ⟨_, s, .loopX h1 (by simp), h2⟩
  | goto l => exact ⟨_, s, .loopX h1 (by simp), h2⟩
  | ret => exact ⟨_, s, .loopX h1 (by simp), h2⟩
  | panic c => exact ⟨_, s, .loopX h1 (by simp), h2⟩
  | outgrown => exact ⟨_, s, .loopX h1 (by simp), h2⟩
theorem W.wk {st1 : St} (hw : Wk st st1) (h : W Γ a st1 Q) : W Γ a st Q := by
  obtain ⟨e, s, h1, h2⟩ := h
  exact ⟨e, s, .wk hw h1, h2⟩
theorem Wk.keep (st : St) (kp : Kp) : Wk st (st.keep kp) := fun _ h => ⟨_, _, h.keep kp⟩
/-- A loop's head keeps what it keeps. -/
theorem W.loopK {kp : Kp} (h : W Γ (.loop a kp) (st.keep kp) Q) : W Γ (.loop a kp) st Q := W.wk (Wk.keep st kp) h
theorem W.exit {id : Nat} {kp : Kp} (h : Q (.exit id) (st.keep kp)) : W Γ (.exit id kp) st Q := ⟨_, _, .exit, h⟩
theorem W.ret (h : Q .ret st) : W Γ .ret st Q := ⟨_, _, .ret, h⟩
theorem W.mono {Q' : Exit → St → Prop} (h : W Γ a st Q) (hq : ∀ e s, Q e s → Q' e s) : W Γ a st Q' := by
  obtain ⟨e, s, h1, h2⟩ := h
  exact ⟨e, s, h1, hq e s h2⟩
end

/-- Arguments, handed over. -/
inductive CvL (st : St) (O : Bool) : List AV → List AV → Prop
  | nil : CvL st O [] []
  | cons {x y : AV} {xs ys : List AV} (h : Cv st O false x y) (t : CvL st O xs ys) : CvL st O (x :: xs) (y :: ys)
theorem CvL.len {st : St} {O : Bool} {xs ys : List AV} (h : CvL st O xs ys) : ys.length = xs.length := by
  induction h with
  | nil => rfl
  | cons _ _ ih => simp [ih]
theorem CvL.at_ {st : St} {O : Bool} {xs ys : List AV} (h : CvL st O xs ys) : ∀ (j : Nat) (x y : AV), xs[j]? = some x → ys[j]? = some y → Cv st O false x y := by
  induction h with
  | nil => intro j x y hx; simp at hx
  | cons h _ ih =>
    intro j x y hx hy
    cases j with
    | zero => simp at hx hy; subst hx; subst hy; exact h
    | succ j => exact ih j x y (by simpa using hx) (by simpa using hy)

/-- A call: its arguments, what it hands back. -/
def Wcall (Γ : Ctx) (f : Nat) (xs : List AV) (st : St) (K : AV → Prop) : Prop :=
  ∃ l R args r, Γ f = some (l, R) ∧ CvL st (!l) xs args ∧ R args r ∧ K r
theorem Wcall.of {Γ : Ctx} {f : Nat} {xs : List AV} {st : St} {K : AV → Prop} {l : Bool} {R : List AV → AV → Prop} (hΓ : Γ f = some (l, R)) (args : List AV) (r : AV) (hR : R args r) (hc : CvL st (!l) xs args) (k : K r) : Wcall Γ f xs st K :=
  ⟨l, R, args, r, hΓ, hc, hR, k⟩
def Wact (Γ : Ctx) (i : Nat) (st : St) (ao : AO) (K : AV → List (Option Blk) → Prop) : Prop :=
  match ao with
  | .call f xs => Wcall Γ f (xs.map st.ev) st fun r => K r st.M
  | ao => match astep i st ao with
    | some (r, M') => K r M'
    | none => False
def Wop (Γ : Ctx) (i : Nat) (c : COp) (st : St) (K : AV → List (Option Blk) → Prop) : Prop :=
  match c.guard with
  | none => Wact Γ i st c.ao K
  | some (t, b) => match st.tm[t]? with
    | some (.lit (.bool y)) => if y = b then Wact Γ i st c.ao K else K .junk st.M
    | _ => False
/-- A call of a function that writes what it is handed. -/
def Wsp (Γ : Ctx) (i : Nat) (ao : AO) (st : St) (K : AV → List (Option Blk) → Prop) : Prop := ∃ f xs R r M', ao = .call f xs ∧ Γ.sp f = some R ∧ R i st (xs.map st.ev) r M' ∧ K r M'
def Wops (Γ : Ctx) : Nat → List COp → St → (St → Prop) → Prop
  | _, [], st, K => K st
  | i, c :: cs, st, K => (Wop Γ i c st fun r M' => Wops Γ (i + 1) cs ({ st with M := M' }.put c.dst r) K) ∨ c.on st true ∧ Wsp Γ i c.ao st fun r M' => Wops Γ (i + 1) cs ({ st with M := M' }.put c.dst r) K
/-- The block that an operation turned. -/
def upOf (W : List Nat) (M : List (Option Blk)) : U :=
  match W with
  | [] => none
  | id :: _ => match M[id]? with
    | some (some B) => some (id, B)
    | _ => none
def Wdops (Γ : Ctx) : Nat → List COp → List Ann → St → (St → Prop) → Prop
  | _, [], [], st, K => K st
  | i, c :: cs, an :: ans, st, K => Wop Γ i c (st.restr an.T) fun r M' => M' = upM (st.restr an.T).M (upOf an.W M') ∧ Wdops Γ (i + 1) cs ans ({ st with M := upM st.M (upOf an.W M') }.put c.dst r) K
  | _, _, _, _, _ => False

theorem Wact.eff {Γ : Ctx} {i : Nat} {c : COp} {st : St} {K : AV → List (Option Blk) → Prop} (h : Wact Γ i st c.ao K) (hon : c.on st true) : ∃ r M', Eff Γ i c st r M' ∧ K r M' := by
  unfold Wact at h
  split at h
  · rename_i f xs e
    obtain ⟨l, R, args, r, h1, h2, h3, h4⟩ := h
    refine ⟨r, _, .call hon e h1 (by rw [h2.len]; simp) (fun j x y hx hy => h2.at_ j _ y (by rw [List.getElem?_map, hx]; rfl) hy) h3, h4⟩
  · rename_i ao hn
    split at h
    · rename_i r M' hs
      refine ⟨r, M', .op hon ?_ hs, h⟩
      cases hc : c.ao <;> first | rfl | exact absurd hc (hn _ _)
    · exact h.elim
theorem Wop.eff {Γ : Ctx} {i : Nat} {c : COp} {st : St} {K : AV → List (Option Blk) → Prop} (h : Wop Γ i c st K) : ∃ r M', Eff Γ i c st r M' ∧ K r M' := by
  unfold Wop at h
  split at h
  · rename_i e
    exact Wact.eff h (by unfold COp.on; rw [e])
  · rename_i t b e
    split at h
    · rename_i y hy
      split at h
      · rename_i hb
        exact Wact.eff h (by unfold COp.on; rw [e]; exact ⟨y, hy, by simp [hb]⟩)
      · rename_i hb
        exact ⟨_, _, .off (by unfold COp.on; rw [e]; exact ⟨y, hy, by simp [hb]⟩), h⟩
    · exact h.elim
theorem Wops.sq {Γ : Ctx} : ∀ {i : Nat} {cs : List COp} {st : St} {K : St → Prop}, Wops Γ i cs st K → ∃ st', Sq Γ i cs st st' ∧ K st'
  | i, [], st, K, h => ⟨st, .nil, h⟩
  | i, c :: cs, st, K, h => by
    rcases h with h | ⟨hon, f, xs, R, r, M', e1, e2, e3, h2⟩
    · obtain ⟨r, M', h1, h2⟩ := Wop.eff h
      obtain ⟨st', h3, h4⟩ := Wops.sq h2
      exact ⟨st', .cons h1 h3, h4⟩
    · obtain ⟨st', h3, h4⟩ := Wops.sq h2
      exact ⟨st', .consX hon e1 e2 e3 h3, h4⟩
theorem upOf_mem {W : List Nat} {M : List (Option Blk)} {p : Nat × Blk} (h : upOf W M = some p) : p.1 ∈ W := by
  unfold upOf at h
  split at h
  · cases h
  · split at h
    · injection h with h; subst h; exact List.mem_cons_self ..
    · cases h
theorem Wdops.dsq {Γ : Ctx} : ∀ {i : Nat} {cs : List COp} {ans : List Ann} {st : St} {K : St → Prop}, Wdops Γ i cs ans st K → ∃ ps st', DSq Γ i cs ans st ps st' ∧ K st'
  | i, [], [], st, K, h => ⟨[], st, .nil, h⟩
  | i, c :: cs, an :: ans, st, K, h => by
    obtain ⟨r, M', h1, h2, h3⟩ := Wop.eff h
    obtain ⟨ps, st', h4, h5⟩ := Wdops.dsq h3
    exact ⟨_, st', .cons (u := upOf an.W M') (by rw [← h2]; exact h1) (fun p hp => upOf_mem hp) h4, h5⟩
  | i, [], _ :: _, st, K, h => h.elim
  | i, _ :: _, [], st, K, h => h.elim

section
variable {Γ : Ctx} {st : St} {Q : Exit → St → Prop}
theorem W.reg {ops : List COp} {kp : Kp} (h : Wops Γ 0 ops st fun s => Q .normal (St.keep { s with g := s.g + 1 } kp)) : W Γ (.reg ops kp) st Q := by
  obtain ⟨st', h1, h2⟩ := h.sq
  exact ⟨_, _, .reg h1, h2⟩
theorem W.dreg {ops : List COp} {ans : List Ann} {kp : Kp} (h : Wdops Γ 0 ops ans st fun s => Q .normal (St.keep { s with g := s.g + 1 } kp)) : W Γ (.dreg ops ans kp) st Q := by
  obtain ⟨ps, st', h1, h2⟩ := h.dsq
  exact ⟨_, _, .dreg h1, h2⟩
end

-- states, as they are spelled
def del (j : Nat) : List (Nat × AV) → List (Nat × AV)
  | [] => []
  | p :: l => if j = p.1 then del j l else p :: del j l
def ins (j : Nat) (x : AV) (l : List (Nat × AV)) : List (Nat × AV) := (j, x) :: del j l
def sel (l : List (Nat × AV)) : List Nat → List (Nat × AV)
  | [] => []
  | k :: ks => (k, lk k l) :: sel l ks
/-- A state: n places, those that hold something, the blocks, the number of regions so far. -/
abbrev mk (n : Nat) (l : List (Nat × AV)) (M : List (Option Blk)) (g : Nat) : St := ⟨mkT n l, M, g⟩
theorem mkT_length (n : Nat) (l : List (Nat × AV)) : (mkT n l).length = n := by simp [mkT]
theorem mkT_get {n j : Nat} (h : j < n) (l : List (Nat × AV)) : (mkT n l)[j]? = some (lk j l) := by
  unfold mkT
  rw [List.getElem?_map, List.getElem?_range h]; rfl
theorem ev_r {n j : Nat} {l : List (Nat × AV)} {M : List (Option Blk)} {g : Nat} (h : j < n) : St.ev ⟨mkT n l, M, g⟩ (.r j) = lk j l := by
  simp only [St.ev, List.getD_eq_getElem?_getD, mkT_get h, Option.getD_some]
theorem lk_del {i j : Nat} (h : i ≠ j) : ∀ l : List (Nat × AV), lk j (del i l) = lk j l
  | [] => rfl
  | p :: l => by
    simp only [del]
    split
    · rename_i e
      rw [lk_del h l]
      simp only [lk]
      rw [if_neg (by omega)]
    · simp only [lk, lk_del h l]
theorem mkT_set {n d : Nat} (h : d < n) (x : AV) (l : List (Nat × AV)) : (mkT n l).set d x = mkT n (ins d x l) := by
  refine List.ext_getElem? fun j => ?_
  rw [List.getElem?_set, mkT_length]
  by_cases hj : j < n
  · rw [mkT_get hj]
    by_cases e : d = j
    · subst e; rw [if_pos rfl, if_pos h, mkT_get h]; simp [ins, lk]
    · rw [if_neg e, mkT_get hj]
      simp only [ins, lk]
      rw [if_neg (fun x => e x.symm), lk_del e]
  · rw [if_neg (by omega), List.getElem?_eq_none (by rw [mkT_length]; omega), List.getElem?_eq_none (by rw [mkT_length]; omega)]
theorem put_some {n d : Nat} {l : List (Nat × AV)} {M : List (Option Blk)} {g : Nat} {x : AV} (h : d < n) : St.put ⟨mkT n l, M, g⟩ (some d) x = ⟨mkT n (ins d x l), M, g⟩ := by
  simp only [St.put, mkT_set h]
theorem put_none {st : St} {x : AV} : St.put st none x = st := rfl
theorem keep_mk {n : Nat} {l : List (Nat × AV)} {M : List (Option Blk)} {g : Nat} {ks ms : List Nat} : St.keep ⟨mkT n l, M, g⟩ (ks, ms) = ⟨mkT n (sel l ks), maskM ms 0 M, g⟩ := by
  unfold St.keep
  simp only [mkT_length]
  congr 1
  refine List.ext_getElem? fun j => ?_
  by_cases hj : j < n
  · rw [mkT_get hj, mkT_get hj]
    congr 1
    induction ks with
    | nil => rfl
    | cons k ks ih =>
      simp only [List.map_cons, sel, lk]
      split
      · rename_i e; subst e
        rw [List.getD_eq_getElem?_getD, mkT_get hj]; rfl
      · exact ih
  · rw [List.getElem?_eq_none (by rw [mkT_length]; omega), List.getElem?_eq_none (by rw [mkT_length]; omega)]
def enum : Nat → List AV → List (Nat × AV)
  | _, [] => []
  | i, x :: xs => (i, x) :: enum (i + 1) xs
theorem lk_enum : ∀ (xs : List AV) (i j : Nat), lk j (enum i xs) = if i ≤ j then (xs[j - i]?).getD .junk else .junk
  | [], i, j => by simp [enum, lk]
  | x :: xs, i, j => by
    simp only [enum, lk]
    by_cases h : j = i
    · subst h; simp
    · rw [if_neg h, lk_enum xs (i + 1) j]
      by_cases h2 : i + 1 ≤ j
      · rw [if_pos h2, if_pos (by omega)]
        rw [show j - i = (j - (i + 1)) + 1 by omega]
        simp
      · rw [if_neg h2]; split
        · omega
        · rfl
theorem st0_mk {n ns : Nat} {args : List AV} (h : args.length ≤ n) : st0 n ns args = ⟨mkT n (enum 0 args), List.replicate ns none, 0⟩ := by
  unfold st0
  congr 1
  refine List.ext_getElem? fun j => ?_
  by_cases hj : j < n
  · rw [mkT_get hj, lk_enum]
    simp only [Nat.zero_le, if_true, Nat.sub_zero]
    by_cases hj' : j < args.length
    · rw [List.getElem?_append_left hj', List.getElem?_eq_getElem hj']; rfl
    · rw [List.getElem?_append_right (by omega), List.getElem?_replicate, if_pos (by omega), List.getElem?_eq_none (by omega)]; rfl
  · rw [List.getElem?_eq_none (by simp; omega), List.getElem?_eq_none (by rw [mkT_length]; omega)]

-- values, as they are spelled
abbrev eN (k : IntKind) (n : Int) : AV := .lit (.int k n)
abbrev eB (b : Bool) : AV := .lit (.bool b)
abbrev eS (s : ByteArray) : AV := .lit (.string s)
abbrev eL {α : Type} (lab : Bool) (k : Nat) (f : α → List AV) (l : List α) : AV := .frz lab k l.length (l.flatMap f)
/-- The cells of what lies in one. -/
def c1 {α : Type} (f : α → AV) (x : α) : List AV := [f x]
theorem flat_at {α : Type} {f : α → List AV} {k : Nat} (hf : ∀ x, (f x).length = k) : ∀ {l : List α} {n : Nat} (d : α), n < l.length → ((l.flatMap f).drop (n * k)).take k = f (l.getD n d)
  | [], n, d, h => by simp at h
  | x :: l, 0, d, h => by
    simp only [List.flatMap_cons, Nat.zero_mul, List.drop_zero, List.getD_cons_zero]
    rw [List.take_append_of_le_length (by rw [hf]; exact Nat.le_refl _), List.take_of_length_le (by rw [hf]; exact Nat.le_refl _)]
  | x :: l, n + 1, d, h => by
    simp only [List.flatMap_cons, List.getD_cons_succ]
    have e : (f x ++ l.flatMap f).drop k = l.flatMap f := by rw [← hf x]; exact List.drop_left
    rw [show (n + 1) * k = k + n * k by rw [Nat.succ_mul, Nat.add_comm], ← List.drop_drop, e]
    exact flat_at hf d (by simpa using h)
end Go.Proofs.YtbpajecjaoefaaaGreat.V

/- The abstract machine: code as a predicate that can be unfolded, and how its steps read at typed lists. -/
namespace Go.Proofs.YtbpajecjaoefaaaGreat.V
open Go Go.RowKit

def Wr (o : Option (AV × List (Option Blk))) (K : AV → List (Option Blk) → Prop) : Prop := match o with | some p => K p.1 p.2 | none => False
def wact (Γ : Ctx) (i : Nat) (st : St) (ao : AO) (K : AV → List (Option Blk) → Prop) : Prop :=
  match ao with
  | .call f xs => Wcall Γ f (xs.map st.ev) st fun r => K r st.M
  | .pick c x y => match st.ev c with
    | .lit (.bool b) => (b = true → K (st.ev x) st.M) ∧ (b = false → K (st.ev y) st.M)
    | _ => False
  | ao => Wr (astep i st ao) K
def St.lit (st : St) (t : Nat) (b : Bool) : St := st.put (some t) (.lit (.bool b))
def wops (Γ : Ctx) : Nat → List COp → St → (St → Prop) → Prop
  | _, [], st, K => K st
  | i, c :: cs, st, K => match c.guard with
    | none => wact Γ i st c.ao (fun r M' => wops Γ (i + 1) cs ({ st with M := M' }.put c.dst r) K) ∨ Wsp Γ i c.ao st fun r M' => wops Γ (i + 1) cs ({ st with M := M' }.put c.dst r) K
    | some (t, b) => match st.ev (.r t) with
      | .lit (.bool y) => (y = b → wact Γ i (st.lit t b) c.ao (fun r M' => wops Γ (i + 1) cs ({ st.lit t b with M := M' }.put c.dst r) K) ∨ Wsp Γ i c.ao (st.lit t b) fun r M' => wops Γ (i + 1) cs ({ st.lit t b with M := M' }.put c.dst r) K) ∧ (y = !b → wops Γ (i + 1) cs ((st.lit t !b).put c.dst .junk) K)
      | _ => False
def wdops (Γ : Ctx) : Nat → List COp → List Ann → St → (St → Prop) → Prop
  | _, [], [], st, K => K st
  | i, c :: cs, an :: ans, st, K => match c.guard with
    | none => wact Γ i (st.restr an.T) c.ao fun r M' => M' = upM (st.restr an.T).M (upOf an.W M') ∧ wdops Γ (i + 1) cs ans ({ st with M := upM st.M (upOf an.W M') }.put c.dst r) K
    | some (t, b) => match st.ev (.r t) with
      | .lit (.bool y) => (y = b → wact Γ i ((st.lit t b).restr an.T) c.ao fun r M' => M' = upM (st.restr an.T).M (upOf an.W M') ∧ wdops Γ (i + 1) cs ans ({ st.lit t b with M := upM st.M (upOf an.W M') }.put c.dst r) K) ∧ (y = !b → wdops Γ (i + 1) cs ans ((st.lit t !b).put c.dst .junk) K)
      | _ => False
  | _, _, _, _, _ => False
/-- Where the unfolding stops ahead of a region. -/
def isCut (kp : Kp) : Bool := match kp.2 with | 777 :: _ => true | _ => false
def wx (Γ : Ctx) : AC → St → (Exit → St → Prop) → Prop
  | .skip, st, Q => Q .normal st
  | .reg ops kp, st, Q => if isCut kp then W Γ (.reg ops kp) st Q else wops Γ 0 ops st fun s => Q .normal (St.keep { s with g := s.g + 1 } kp)
  | .dreg ops ans kp, st, Q => if isCut kp then W Γ (.dreg ops ans kp) st Q else wdops Γ 0 ops ans st fun s => Q .normal (St.keep { s with g := s.g + 1 } kp)
  | .seq a b, st, Q => wx Γ a st (thn (fun s => wx Γ b s Q) Q)
  | .cond x a b, st, Q => match st.ev x with
    | .lit (.bool y) => (y = true → wx Γ a st Q) ∧ (y = false → wx Γ b st Q)
    | _ => False
  | .block id a, st, Q => wx Γ a st (inB id Q)
  | .loop a kp, st, Q => W Γ (.loop a kp) (st.keep kp) Q
  | .exit id kp, st, Q => Q (.exit id) (st.keep kp)
  | .ret, st, Q => Q .ret st

theorem lit_same {st : St} {t : Nat} {b : Bool} (h : st.ev (.r t) = .lit (.bool b)) : st.lit t b = st ∧ st.tm[t]? = some (.lit (.bool b)) := by
  obtain ⟨tm, M, g⟩ := st
  simp only [St.ev, List.getD_eq_getElem?_getD] at h
  cases e : tm[t]? with
  | none => rw [e] at h; cases h
  | some x =>
    rw [e] at h; simp only [Option.getD_some] at h; subst h
    refine ⟨?_, rfl⟩
    obtain ⟨hl, hg⟩ := List.getElem?_eq_some_iff.1 e
    simp only [St.lit, St.put]
    congr 1
    rw [← hg]; exact List.set_getElem_self hl
theorem wact_W {Γ : Ctx} {i : Nat} {st : St} {ao : AO} {K : AV → List (Option Blk) → Prop} (h : wact Γ i st ao K) : Wact Γ i st ao K := by
  unfold wact at h
  split at h
  · exact h
  · split at h
    · rename_i b hb
      unfold Wact
      simp only [astep, hb]
      cases b
      · exact h.2 rfl
      · exact h.1 rfl
    · exact h.elim
  · rename_i h1 h2
    unfold Wr at h
    cases ao <;> first | (exact absurd rfl (h1 _ _)) | (exact absurd rfl (h2 _ _ _)) | (simp only [Wact]; split at h <;> first | (rename_i e; rw [e]; exact h) | exact h.elim)
theorem wact_mono {Γ : Ctx} {i : Nat} {st : St} {ao : AO} {K K' : AV → List (Option Blk) → Prop} (h : Wact Γ i st ao K) (hk : ∀ r M, K r M → K' r M) : Wact Γ i st ao K' := by
  unfold Wact at h ⊢
  split
  · obtain ⟨l, R, args, r, h1, h2, h3, h4⟩ := h
    exact ⟨l, R, args, r, h1, h2, h3, hk _ _ h4⟩
  · simp only at h
    split
    · rename_i e; rw [e] at h; exact hk _ _ h
    · rename_i e; rw [e] at h; exact h
theorem wsp_mono {Γ : Ctx} {i : Nat} {st : St} {ao : AO} {K K' : AV → List (Option Blk) → Prop} (h : Wsp Γ i ao st K) (hk : ∀ r M, K r M → K' r M) : Wsp Γ i ao st K' := by
  obtain ⟨f, xs, R, r, M', e1, e2, e3, e4⟩ := h
  exact ⟨f, xs, R, r, M', e1, e2, e3, hk _ _ e4⟩
theorem wops_W {Γ : Ctx} : ∀ {i : Nat} {cs : List COp} {st : St} {K : St → Prop}, wops Γ i cs st K → Wops Γ i cs st K
  | i, [], st, K, h => h
  | i, c :: cs, st, K, h => by
    unfold wops at h
    unfold Wops Wop
    cases hg : c.guard with
    | none =>
      rw [hg] at h
      rcases h with h | h
      · exact .inl (wact_mono (wact_W h) fun r M' h => wops_W h)
      · exact .inr ⟨by unfold COp.on; rw [hg], wsp_mono h fun r M' h => wops_W h⟩
    | some p =>
      obtain ⟨t, b⟩ := p
      rw [hg] at h
      simp only at h ⊢
      split at h
      · rename_i y hy
        obtain ⟨e1, e2⟩ := lit_same hy
        rw [e2]
        simp only
        by_cases hb : y = b
        · subst hb
          rw [if_pos rfl]
          have := h.1 rfl
          rw [e1] at this
          rcases this with h | h
          · exact .inl (wact_mono (wact_W h) fun r M' h => wops_W h)
          · exact .inr ⟨by unfold COp.on; rw [hg]; exact ⟨y, e2, by simp⟩, wsp_mono h fun r M' h => wops_W h⟩
        · rw [if_neg hb]
          have hb' : y = !b := by cases y <;> cases b <;> simp_all
          have := h.2 hb'
          rw [← hb', e1] at this
          exact .inl (wops_W this)
      · exact h.elim
theorem restr_ev (st : St) (T : Option (List Nat)) (x : Opd) : (st.restr T).ev x = st.ev x := by cases T <;> cases x <;> rfl
theorem wdops_W {Γ : Ctx} : ∀ {i : Nat} {cs : List COp} {ans : List Ann} {st : St} {K : St → Prop}, wdops Γ i cs ans st K → Wdops Γ i cs ans st K
  | i, [], [], st, K, h => h
  | i, [], _ :: _, st, K, h => by unfold wdops at h; exact h.elim
  | i, _ :: _, [], st, K, h => by unfold wdops at h; exact h.elim
  | i, c :: cs, an :: ans, st, K, h => by
    unfold wdops at h
    unfold Wdops Wop
    cases hg : c.guard with
    | none =>
      rw [hg] at h
      exact wact_mono (wact_W h) fun r M' h => ⟨h.1, wdops_W h.2⟩
    | some p =>
      obtain ⟨t, b⟩ := p
      rw [hg] at h
      simp only at h ⊢
      split at h
      · rename_i y hy
        obtain ⟨e1, e2⟩ := lit_same hy
        have e3 : (st.restr an.T).tm = st.tm := by cases an.T <;> rfl
        rw [e3, e2]
        simp only
        by_cases hb : y = b
        · subst hb
          rw [if_pos rfl]
          have := h.1 rfl
          rw [e1] at this
          exact wact_mono (wact_W this) fun r M' h => ⟨h.1, wdops_W h.2⟩
        · rw [if_neg hb]
          have hb' : y = !b := by cases y <;> cases b <;> simp_all
          have := h.2 hb'
          rw [← hb', e1] at this
          have hup : upM st.M (upOf an.W (st.restr an.T).M) = st.M ∧ (st.restr an.T).M = upM (st.restr an.T).M (upOf an.W (st.restr an.T).M) := by
            have key : ∀ (M : List (Option Blk)) (Q : U), upOf an.W M = Q → (∀ (M2 : List (Option Blk)), (∀ (id : Nat) (B : Blk), M[id]? = some (some B) → M2[id]? = some (some B)) → upM M2 Q = M2) := by
              intro M Q hQ M2 h2
              cases Q with
              | none => rfl
              | some q =>
                obtain ⟨id, B⟩ := q
                unfold upOf at hQ
                split at hQ
                · cases hQ
                · split at hQ
                  · rename_i hM
                    injection hQ with hQ; injection hQ with q1 q2; subst q1; subst q2
                    obtain ⟨hl, hg⟩ := List.getElem?_eq_some_iff.1 (h2 _ _ hM)
                    simp only [upM]
                    rw [← hg]; exact List.set_getElem_self hl
                  · cases hQ
            refine ⟨key _ _ rfl _ ?_, (key _ _ rfl _ fun _ _ h => h).symm⟩
            intro id B hB
            cases hT : an.T with
            | none => rw [hT] at hB; exact hB
            | some l => rw [hT] at hB; exact (maskM_at l st.M 0 id B hB).2
          refine ⟨hup.2, ?_⟩
          rw [hup.1]
          exact wdops_W this
      · exact h.elim
theorem wx_W {Γ : Ctx} : ∀ {ac : AC} {st : St} {Q : Exit → St → Prop}, wx Γ ac st Q → W Γ ac st Q
  | .skip, st, Q, h => W.skip h
  | .reg ops kp, st, Q, h => by
    unfold wx at h
    split at h
    · exact h
    · exact W.reg (wops_W h)
  | .dreg ops ans kp, st, Q, h => by
    unfold wx at h
    split at h
    · exact h
    · exact W.dreg (wdops_W h)
  | .seq a b, st, Q, h => by
    refine W.seq ((wx_W (ac := a) h).mono fun e s h => ?_)
    cases e <;> first | exact wx_W (ac := b) h | exact h
  | .cond x a b, st, Q, h => by
    unfold wx at h
    split at h
    · rename_i y hy
      refine W.cond hy ?_
      cases y
      · exact wx_W (h.2 rfl)
      · exact wx_W (h.1 rfl)
    · exact h.elim
  | .block id a, st, Q, h => W.block (wx_W (ac := a) h)
  | .loop a kp, st, Q, h => W.loopK h
  | .exit id kp, st, Q, h => W.exit h
  | .ret, st, Q, h => W.ret h
/-- One round of a loop. -/
theorem W.round {Γ : Ctx} {a : AC} {kp : Kp} {st : St} {Q : Exit → St → Prop} (h : wx Γ a (st.keep kp) (thn (fun s => W Γ (.loop a kp) (s.keep kp) Q) Q)) : W Γ (.loop a kp) st Q := by
  refine W.loop ((wx_W h).mono fun e s h => ?_)
  cases e <;> first | exact W.loopK h | exact h
end Go.Proofs.YtbpajecjaoefaaaGreat.V

/- The abstract machine: the rules that unfold code at states that are spelled out. -/
namespace Go.Proofs.YtbpajecjaoefaaaGreat.V
open Go Go.RowKit

/-- The element at a place. -/
def gt {α : Type} [Inhabited α] (l : List α) (n : Int) : α := l.getD n.toNat default
theorem gt_eq {α : Type} [Inhabited α] {l : List α} {n : Int} (h : 0 ≤ n) (h' : n < l.length) : gt l n = l[n.toNat]'(by omega) := by
  unfold gt; rw [List.getD_eq_getElem?_getD, List.getElem?_eq_getElem (by omega)]; rfl
theorem gt_nat {α : Type} [Inhabited α] {l : List α} {n : Nat} (h : n < l.length) : gt l n = l[n] := by rw [gt_eq (by omega) (by omega)]; simp

/-- A row of the call's own. -/
abbrev eR {α : Type} (g : Gen) (e : TypeId) (k : Nat) (f : α → List AV) (l : List α) : Blk := .row g e k l.length (l.flatMap f)

/-- A place is read, written; a row grows. -/
def loadv (n : Nat) (ag : Bool) (cs : List AV) : Option AV := if n ≤ cs.length then if ag then some (.agg (cs.take n)) else match n, cs with | 1, c :: _ => some c | _, _ => none else none
theorem s_load {i : Nat} {st : St} {n : Nat} {ag : Bool} {x : Opd} : astep i st (.load n ag x) = (st.cells (st.ev x)).bind fun cs => (loadv n ag cs).map fun r => (r, st.M) := by
  simp only [astep, loadv]
  cases st.cells (st.ev x) with
  | none => rfl
  | some cs =>
    simp only [Option.bind_some]
    split
    · split
      · rfl
      · match n, cs with
        | 1, c :: _ => rfl
        | 1, [] => rfl
        | 0, _ => rfl
        | n + 2, _ => rfl
    · rfl
theorem blk_g {st : St} {id : Nat} {g : Gen} {B : Blk} (h : st.blk id g = some B) : B.g = g := by
  unfold St.blk at h
  split at h
  · split at h
    · rename_i e; injection h with h; subst h; exact e
    · cases h
  · cases h
def storeB (B : Option Blk) (off n : Nat) (ys : List AV) : Option Blk := match B with
  | some (.row g e k m cs) => if off + n ≤ cs.length then some (.row g e k m (splice cs off ys)) else none
  | some (.box g t cs) => if off + n ≤ cs.length then some (.box g t (splice cs off ys)) else none
  | _ => none
def storev (st : St) (n : Nat) (v : AV) : AV → Option (AV × List (Option Blk))
  | .ptr id g off => if (avc v).length = n ∧ avs v = true then (storeB (st.blk id g) off n (avc v)).map fun B => (.junk, st.M.set id (some B)) else none
  | _ => none
theorem s_store {i : Nat} {st : St} {n : Nat} {x v : Opd} : astep i st (.store n x v) = storev st n (st.ev v) (st.ev x) := by
  simp only [astep]
  cases e : st.ev x <;> try rfl
  rename_i id g off
  simp only [storev]
  split
  · cases hB : st.blk id g with
    | none => rfl
    | some B =>
      have := blk_g hB
      cases B with
      | row => simp only [Blk.g] at this; subst this; simp only [storeB]; split <;> simp
      | box => simp only [Blk.g] at this; subst this; simp only [storeB]; split <;> simp
      | mp => rfl
  · rfl
def appB (B : Option Blk) (g' : Gen) (e : TypeId) (k by_ : Nat) (m : Nat) (ds : List AV) : Option Blk := match B with
  | some (.row _ e' k' n cs) => if k' = k ∧ e' = e ∧ (n + m) * by_ ≤ 140737488355328 ∧ n + m ≤ 9223372036854775807 ∧ ds.all av1 then some (.row g' e k (n + m) (cs ++ ds)) else none
  | _ => none
def appv (st : St) (id i : Nat) (e : TypeId) (k by_ : Nat) (m : Nat) (ds : List AV) : AV → Option (AV × List (Option Blk))
  | .own id' g => (appB (st.blk id' g) (st.g, i) e k by_ m ds).map fun B => (.own id' (st.g, i), st.M.set id' (some B))
  | .lit (.slice none 0 0) => if id < st.M.length ∧ 0 < k ∧ m * by_ ≤ 140737488355328 ∧ m ≤ 9223372036854775807 ∧ ds.all av1 then some (.own id (st.g, i), st.M.set id (some (.row (st.g, i) e k m ds))) else none
  | _ => none
theorem s_app {i : Nat} {st : St} {id : Nat} {e : TypeId} {k by_ : Nat} {x y : Opd} : astep i st (.app id e k by_ x y) = (st.row k (st.ev y)).bind fun p => appv st id i e k by_ p.1 p.2 (st.ev x) := by
  simp only [astep]
  cases st.row k (st.ev y) with
  | none => rfl
  | some p =>
    obtain ⟨m, ds⟩ := p
    simp only [Option.bind_some]
    split
    · rename_i id' g e1
      simp only [e1, appv]
      cases st.blk id' g with
      | none => rfl
      | some B =>
        cases B with
        | row => simp only [appB]; split <;> simp
        | box => rfl
        | mp => rfl
    · rename_i e1
      simp only [e1, appv]
    · rename_i h1 h2
      unfold appv
      split
      · rename_i id' g e1; exact absurd e1 (h1 id' g)
      · rename_i e1; exact absurd e1 h2
      · rfl
/-- A Bool decides between two goals; where it is known, the other one is not looked at. -/
def cnd (y : Bool) (P Q : Prop) : Prop := match y with | true => P | false => Q
theorem cnd_t {P Q : Prop} : cnd true P Q = P := by simp [cnd]
theorem cnd_f {P Q : Prop} : cnd false P Q = Q := by simp [cnd]
theorem cnd_s {y : Bool} {P Q : Prop} : cnd y P Q = ((y = true → P) ∧ (y = false → Q)) := by cases y <;> simp [cnd]
def cnf (y : Bool) (P Q : Prop) : Prop := match y with | true => Q | false => P
theorem cnf_t {P Q : Prop} : cnf true P Q = Q := by simp [cnf]
theorem cnf_f {P Q : Prop} : cnf false P Q = P := by simp [cnf]
theorem cnf_s {y : Bool} {P Q : Prop} : cnf y P Q = ((y = false → P) ∧ (y = true → Q)) := by cases y <;> simp [cnf]
theorem or_no {a b : Prop} (h : ¬ b) : (a ∨ b) = a := by simp [h]
-- what comes behind is kept as data, so that nothing behind a step is looked at before it is reached
inductive Fm where
  | sq (b : AC)
  | bl (id : Nat)
  | lp (a : AC) (kp : Kp)
def kQ (Γ : Ctx) (Q : Exit → St → Prop) : List Fm → Exit → St → Prop
  | [] => Q
  | .sq b :: k => thn (fun s => wx Γ b s (kQ Γ Q k)) (kQ Γ Q k)
  | .bl id :: k => inB id (kQ Γ Q k)
  | .lp a kp :: k => thn (fun s => W Γ (.loop a kp) (s.keep kp) (kQ Γ Q k)) (kQ Γ Q k)
/-- What comes behind an operation: where its value goes, the operations that follow, what their region keeps, what comes then. -/
structure Cx where
  Γ : Ctx
  i : Nat
  d : Option Nat
  cs : List COp
  kp : Kp
  k : List Fm
  Q : Exit → St → Prop
structure Dx where
  Γ : Ctx
  i : Nat
  d : Option Nat
  cs : List COp
  w : List Nat
  t : Option (List Nat)
  ans : List Ann
  kp : Kp
  k : List Fm
  Q : Exit → St → Prop
def X (Γ : Ctx) (ac : AC) (st : St) (k : List Fm) (Q : Exit → St → Prop) : Prop := wx Γ ac st (kQ Γ Q k)
def Un (Γ : Ctx) (e : Exit) (st : St) (k : List Fm) (Q : Exit → St → Prop) : Prop := kQ Γ Q k e st
def O (Γ : Ctx) (i : Nat) (cs : List COp) (st : St) (kp : Kp) (k : List Fm) (Q : Exit → St → Prop) : Prop := wops Γ i cs st fun s => Un Γ .normal (St.keep ⟨s.tm, s.M, s.g + 1⟩ kp) k Q
def OD (Γ : Ctx) (i : Nat) (cs : List COp) (ans : List Ann) (st : St) (kp : Kp) (k : List Fm) (Q : Exit → St → Prop) : Prop := wdops Γ i cs ans st fun s => Un Γ .normal (St.keep ⟨s.tm, s.M, s.g + 1⟩ kp) k Q
/-- An operation's value, and what follows. -/
def Y (c : Cx) (st : St) (o : Option (AV × List (Option Blk))) : Prop := Wr o fun r M' => O c.Γ (c.i + 1) c.cs (St.put ⟨st.tm, M', st.g⟩ c.d r) c.kp c.k c.Q
def YD (c : Dx) (st : St) (o : Option (AV × List (Option Blk))) : Prop := Wr o fun r M' => M' = upM (st.restr c.t).M (upOf c.w M') ∧ OD c.Γ (c.i + 1) c.cs c.ans (St.put ⟨st.tm, upM st.M (upOf c.w M'), st.g⟩ c.d r) c.kp c.k c.Q
def A (c : Cx) (st : St) (ao : AO) : Prop := wact c.Γ c.i st ao (fun r M' => O c.Γ (c.i + 1) c.cs (St.put ⟨st.tm, M', st.g⟩ c.d r) c.kp c.k c.Q) ∨ Wsp c.Γ c.i ao st fun r M' => O c.Γ (c.i + 1) c.cs (St.put ⟨st.tm, M', st.g⟩ c.d r) c.kp c.k c.Q
def AD (c : Dx) (st : St) (ao : AO) : Prop := wact c.Γ c.i (st.restr c.t) ao fun r M' => M' = upM (st.restr c.t).M (upOf c.w M') ∧ OD c.Γ (c.i + 1) c.cs c.ans (St.put ⟨st.tm, upM st.M (upOf c.w M'), st.g⟩ c.d r) c.kp c.k c.Q
/-- A Bool decides. -/
def XB (Γ : Ctx) (x : AV) (a b : AC) (st : St) (k : List Fm) (Q : Exit → St → Prop) : Prop := match x with
  | .lit (.bool y) => (y = true → X Γ a st k Q) ∧ (y = false → X Γ b st k Q)
  | _ => False
def YB (x : AV) (c : Cx) (st : St) (u v : AV) : Prop := match x with
  | .lit (.bool y) => (y = true → Y c st (some (u, st.M))) ∧ (y = false → Y c st (some (v, st.M)))
  | _ => False
def YBD (x : AV) (c : Dx) (st : St) (u v : AV) : Prop := match x with
  | .lit (.bool y) => (y = true → YD c st (some (u, (st.restr c.t).M))) ∧ (y = false → YD c st (some (v, (st.restr c.t).M)))
  | _ => False
def OB (x : AV) (t : Nat) (b : Bool) (c : Cx) (st : St) (ao : AO) : Prop := match x with
  | .lit (.bool y) => (y = b → A c (st.lit t b) ao) ∧ (y = !b → O c.Γ (c.i + 1) c.cs ((st.lit t !b).put c.d .junk) c.kp c.k c.Q)
  | _ => False
def ODB (x : AV) (t : Nat) (b : Bool) (c : Dx) (st : St) (ao : AO) : Prop := match x with
  | .lit (.bool y) => (y = b → AD c (st.lit t b) ao) ∧ (y = !b → OD c.Γ (c.i + 1) c.cs c.ans ((st.lit t !b).put c.d .junk) c.kp c.k c.Q)
  | _ => False
/-- A call, and what follows. -/
def YC (c : Cx) (st : St) (f : Nat) (xs : List AV) : Prop := (Wcall c.Γ f xs st fun r => Y c st (some (r, st.M))) ∨ ∃ R r M', c.Γ.sp f = some R ∧ R c.i st xs r M' ∧ Y c st (some (r, M'))
def YCD (c : Dx) (st : St) (f : Nat) (xs : List AV) : Prop := Wcall c.Γ f xs (st.restr c.t) fun r => YD c st (some (r, (st.restr c.t).M))

section
variable {Γ : Ctx} {i n g : Nat} {l : List (Nat × AV)} {M : List (Option Blk)} {Q : Exit → St → Prop} {k : List Fm} {kp : Kp} {st : St} {d : Option Nat} {cs : List COp} {ans : List Ann} {ao : AO} {T : List AV}
theorem x_skip : X Γ .skip st k Q = Un Γ .normal st k Q := rfl
theorem x_reg {ops : List COp} {ks : List Nat} : X Γ (.reg ops (ks, [])) st k Q = O Γ 0 ops st (ks, []) k Q := rfl
theorem x_dreg {ops : List COp} {ks : List Nat} : X Γ (.dreg ops ans (ks, [])) st k Q = OD Γ 0 ops ans st (ks, []) k Q := rfl
theorem isCut_cons {ks ms : List Nat} {m : Nat} : isCut (ks, m :: ms) = decide (m = 777) := by
  unfold isCut
  by_cases h : m = 777
  · subst h; rfl
  · simp only [h, decide_false]
    split
    · rename_i e; injection e with e; exact absurd e h
    · rfl
theorem x_regc {ops : List COp} {ks ms : List Nat} {m : Nat} : X Γ (.reg ops (ks, m :: ms)) st k Q = if m = 777 then W Γ (.reg ops (ks, m :: ms)) st (fun e s => Un Γ e s k Q) else O Γ 0 ops st (ks, m :: ms) k Q := by
  unfold X wx
  rw [isCut_cons]
  by_cases h : m = 777
  · simp only [h, decide_true, if_true]; rfl
  · simp only [h, decide_false, if_false, Bool.false_eq_true]; rfl
theorem x_dregc {ops : List COp} {ks ms : List Nat} {m : Nat} : X Γ (.dreg ops ans (ks, m :: ms)) st k Q = if m = 777 then W Γ (.dreg ops ans (ks, m :: ms)) st (fun e s => Un Γ e s k Q) else OD Γ 0 ops ans st (ks, m :: ms) k Q := by
  unfold X wx
  rw [isCut_cons]
  by_cases h : m = 777
  · simp only [h, decide_true, if_true]; rfl
  · simp only [h, decide_false, if_false, Bool.false_eq_true]; rfl
theorem W.cut {ops : List COp} (h : O Γ 0 ops st kp k Q) : W Γ (.reg ops kp) st (fun e s => Un Γ e s k Q) := W.reg (wops_W h)
theorem W.cutd {ops : List COp} (h : OD Γ 0 ops ans st kp k Q) : W Γ (.dreg ops ans kp) st (fun e s => Un Γ e s k Q) := W.dreg (wdops_W h)
theorem x_seq {a b : AC} : X Γ (.seq a b) st k Q = X Γ a st (.sq b :: k) Q := rfl
theorem x_block {id : Nat} {a : AC} : X Γ (.block id a) st k Q = X Γ a st (.bl id :: k) Q := rfl
theorem x_loop {a : AC} : X Γ (.loop a kp) st k Q = W Γ (.loop a kp) (st.keep kp) (fun e s => Un Γ e s k Q) := rfl
theorem x_exit {id : Nat} : X Γ (.exit id kp) st k Q = Un Γ (.exit id) (st.keep kp) k Q := rfl
theorem x_ret : X Γ .ret st k Q = Un Γ .ret st k Q := rfl
theorem x_cond {j : Nat} {a b : AC} (h : j < n) : X Γ (.cond (.r j) a b) ⟨mkT n l, M, g⟩ k Q = XB Γ (lk j l) a b ⟨mkT n l, M, g⟩ k Q := by
  simp only [X, wx, ev_r h, XB] <;> (generalize lk j l = x; cases x <;> try rfl)
theorem x_condk {b : Bool} {a c : AC} : X Γ (.cond (.k (.bool b)) a c) st k Q = if b then X Γ a st k Q else X Γ c st k Q := by
  cases b <;> simp [X, wx, St.ev, litOf]
theorem xb_b {y : Bool} {a b : AC} : XB Γ (.lit (.bool y)) a b st k Q = cnd y (X Γ a st k Q) (X Γ b st k Q) := by cases y <;> simp [XB, cnd]
theorem u_nil {e : Exit} : Un Γ e st [] Q = Q e st := rfl
theorem u_sn {b : AC} : Un Γ .normal st (.sq b :: k) Q = X Γ b st k Q := rfl
theorem u_se {b : AC} {j : Nat} : Un Γ (.exit j) st (.sq b :: k) Q = Un Γ (.exit j) st k Q := rfl
theorem u_sr {b : AC} : Un Γ .ret st (.sq b :: k) Q = Un Γ .ret st k Q := rfl
theorem u_bn {id : Nat} : Un Γ .normal st (.bl id :: k) Q = Un Γ .normal st k Q := rfl
theorem u_be {id j : Nat} : Un Γ (.exit j) st (.bl id :: k) Q = if j = id then Un Γ .normal st k Q else Un Γ (.exit j) st k Q := rfl
theorem u_br {id : Nat} : Un Γ .ret st (.bl id :: k) Q = Un Γ .ret st k Q := rfl
theorem u_ln {a : AC} : Un Γ .normal st [.lp a kp] Q = W Γ (.loop a kp) (st.keep kp) Q := rfl
theorem u_le {a : AC} {j : Nat} : Un Γ (.exit j) st (.lp a kp :: k) Q = Un Γ (.exit j) st k Q := rfl
theorem u_lr {a : AC} : Un Γ .ret st (.lp a kp :: k) Q = Un Γ .ret st k Q := rfl
theorem o_nil : O Γ i [] ⟨T, M, g⟩ kp k Q = Un Γ .normal (St.keep ⟨T, M, g + 1⟩ kp) k Q := rfl
theorem o_cons : O Γ i (⟨d, none, ao⟩ :: cs) st kp k Q = A ⟨Γ, i, d, cs, kp, k, Q⟩ st ao := rfl
theorem o_guard {t : Nat} {b : Bool} (h : t < n) : O Γ i (⟨d, some (t, b), ao⟩ :: cs) ⟨mkT n l, M, g⟩ kp k Q = OB (lk t l) t b ⟨Γ, i, d, cs, kp, k, Q⟩ ⟨mkT n l, M, g⟩ ao := by
  simp only [O, wops, ev_r h, OB] <;> (generalize lk t l = x; cases x <;> try rfl)
theorem ob_b {t : Nat} {b y : Bool} (h : t < n) : OB (.lit (.bool y)) t b ⟨Γ, i, d, cs, kp, k, Q⟩ ⟨mkT n l, M, g⟩ ao = ((y = b → A ⟨Γ, i, d, cs, kp, k, Q⟩ ⟨mkT n (ins t (.lit (.bool b)) l), M, g⟩ ao) ∧ (y = !b → O Γ (i + 1) cs (St.put ⟨mkT n (ins t (.lit (.bool !b)) l), M, g⟩ d .junk) kp k Q)) := by
  simp only [OB, St.lit, put_some h]
theorem ob_t {t : Nat} {y : Bool} (h : t < n) : OB (.lit (.bool y)) t true ⟨Γ, i, d, cs, kp, k, Q⟩ ⟨mkT n l, M, g⟩ ao = cnd y (A ⟨Γ, i, d, cs, kp, k, Q⟩ ⟨mkT n (ins t (.lit (.bool true)) l), M, g⟩ ao) (O Γ (i + 1) cs (St.put ⟨mkT n (ins t (.lit (.bool false)) l), M, g⟩ d .junk) kp k Q) := by
  rw [ob_b h]; cases y <;> simp [cnd]
theorem ob_f {t : Nat} {y : Bool} (h : t < n) : OB (.lit (.bool y)) t false ⟨Γ, i, d, cs, kp, k, Q⟩ ⟨mkT n l, M, g⟩ ao = cnf y (A ⟨Γ, i, d, cs, kp, k, Q⟩ ⟨mkT n (ins t (.lit (.bool false)) l), M, g⟩ ao) (O Γ (i + 1) cs (St.put ⟨mkT n (ins t (.lit (.bool true)) l), M, g⟩ d .junk) kp k Q) := by
  rw [ob_b h]; cases y <;> simp [cnf]
theorem od_nil : OD Γ i [] [] ⟨T, M, g⟩ kp k Q = Un Γ .normal (St.keep ⟨T, M, g + 1⟩ kp) k Q := rfl
theorem od_cons {t : Option (List Nat)} {w : List Nat} : OD Γ i (⟨d, none, ao⟩ :: cs) (⟨t, w⟩ :: ans) st kp k Q = AD ⟨Γ, i, d, cs, w, t, ans, kp, k, Q⟩ st ao := rfl
theorem od_guard {s : Nat} {b : Bool} {t : Option (List Nat)} {w : List Nat} (h : s < n) : OD Γ i (⟨d, some (s, b), ao⟩ :: cs) (⟨t, w⟩ :: ans) ⟨mkT n l, M, g⟩ kp k Q = ODB (lk s l) s b ⟨Γ, i, d, cs, w, t, ans, kp, k, Q⟩ ⟨mkT n l, M, g⟩ ao := by
  simp only [OD, wdops, ev_r h, ODB]; generalize lk s l = x; cases x <;> try rfl
  rename_i v; cases v <;> try rfl
  simp only [AD, St.lit, put_some h]
  cases t <;> rfl
theorem odb_b {s : Nat} {b y : Bool} {t : Option (List Nat)} {w : List Nat} (h : s < n) : ODB (.lit (.bool y)) s b ⟨Γ, i, d, cs, w, t, ans, kp, k, Q⟩ ⟨mkT n l, M, g⟩ ao = ((y = b → AD ⟨Γ, i, d, cs, w, t, ans, kp, k, Q⟩ ⟨mkT n (ins s (.lit (.bool b)) l), M, g⟩ ao) ∧ (y = !b → OD Γ (i + 1) cs ans (St.put ⟨mkT n (ins s (.lit (.bool !b)) l), M, g⟩ d .junk) kp k Q)) := by
  simp only [ODB, St.lit, put_some h]
theorem odb_t {s : Nat} {y : Bool} {t : Option (List Nat)} {w : List Nat} (h : s < n) : ODB (.lit (.bool y)) s true ⟨Γ, i, d, cs, w, t, ans, kp, k, Q⟩ ⟨mkT n l, M, g⟩ ao = cnd y (AD ⟨Γ, i, d, cs, w, t, ans, kp, k, Q⟩ ⟨mkT n (ins s (.lit (.bool true)) l), M, g⟩ ao) (OD Γ (i + 1) cs ans (St.put ⟨mkT n (ins s (.lit (.bool false)) l), M, g⟩ d .junk) kp k Q) := by
  rw [odb_b h]; cases y <;> simp [cnd]
theorem odb_f {s : Nat} {y : Bool} {t : Option (List Nat)} {w : List Nat} (h : s < n) : ODB (.lit (.bool y)) s false ⟨Γ, i, d, cs, w, t, ans, kp, k, Q⟩ ⟨mkT n l, M, g⟩ ao = cnf y (AD ⟨Γ, i, d, cs, w, t, ans, kp, k, Q⟩ ⟨mkT n (ins s (.lit (.bool false)) l), M, g⟩ ao) (OD Γ (i + 1) cs ans (St.put ⟨mkT n (ins s (.lit (.bool true)) l), M, g⟩ d .junk) kp k Q) := by
  rw [odb_b h]; cases y <;> simp [cnf]
theorem y_some {r : AV} {M' : List (Option Blk)} : Y ⟨Γ, i, d, cs, kp, k, Q⟩ ⟨T, M, g⟩ (some (r, M')) = O Γ (i + 1) cs (St.put ⟨T, M', g⟩ d r) kp k Q := rfl
theorem yd_some {t : Option (List Nat)} {w : List Nat} {r : AV} {M' : List (Option Blk)} : YD ⟨Γ, i, d, cs, w, t, ans, kp, k, Q⟩ ⟨T, M, g⟩ (some (r, M')) = (M' = upM (St.restr ⟨T, M, g⟩ t).M (upOf w M') ∧ OD Γ (i + 1) cs ans (St.put ⟨T, upM M (upOf w M'), g⟩ d r) kp k Q) := rfl
theorem yb_b {c : Cx} {y : Bool} {u v : AV} : YB (.lit (.bool y)) c st u v = cnd y (Y c st (some (u, st.M))) (Y c st (some (v, st.M))) := by cases y <;> simp [YB, cnd]
theorem ybd_b {c : Dx} {y : Bool} {u v : AV} : YBD (.lit (.bool y)) c st u v = cnd y (YD c st (some (u, (st.restr c.t).M))) (YD c st (some (v, (st.restr c.t).M))) := by cases y <;> simp [YBD, cnd]
theorem restr_n : st.restr none = st := rfl
theorem restr_s {w : List Nat} : St.restr ⟨T, M, g⟩ (some w) = ⟨T, maskM w 0 M, g⟩ := rfl
theorem upOf_n : upOf [] M = none := rfl
theorem upOf_s {id : Nat} {w : List Nat} : upOf (id :: w) M = match M[id]? with | some (some B) => some (id, B) | _ => none := rfl
theorem upM_n : upM M none = M := rfl
theorem upM_s {id : Nat} {B : Blk} : upM M (some (id, B)) = M.set id (some B) := rfl
theorem maskM_nil {w : List Nat} : maskM w i [] = [] := rfl
theorem maskM_cons {w : List Nat} {b : Option Blk} {bs : List (Option Blk)} : maskM w i (b :: bs) = (if w.contains i then b else none) :: maskM w (i + 1) bs := rfl
theorem lk_nil {j : Nat} : lk j [] = .junk := rfl
theorem lk_cons {j k : Nat} {x : AV} {l : List (Nat × AV)} : lk j ((k, x) :: l) = if j = k then x else lk j l := rfl
theorem del_nil {j : Nat} : del j [] = [] := rfl
theorem del_cons {j k : Nat} {x : AV} {l : List (Nat × AV)} : del j ((k, x) :: l) = if j = k then del j l else (k, x) :: del j l := rfl
theorem ins_is {j : Nat} {x : AV} {l : List (Nat × AV)} : ins j x l = (j, x) :: del j l := rfl
theorem sel_nil {l : List (Nat × AV)} : sel l [] = [] := rfl
theorem sel_cons {l : List (Nat × AV)} {k : Nat} {ks : List Nat} : sel l (k :: ks) = (k, lk k l) :: sel l ks := rfl
theorem ev_k {v : Value} : st.ev (.k v) = litOf v := rfl
theorem ev_f {f : Nat} : st.ev (.fn f) = .clo f [] := rfl
theorem lit_i {k : IntKind} {n : Int} : litOf (.int k n) = .lit (.int k n) := rfl
theorem lit_b {b : Bool} : litOf (.bool b) = .lit (.bool b) := rfl
theorem lit_s {s : ByteArray} : litOf (.string s) = .lit (.string s) := rfl
theorem lit_l {a b : Nat} : litOf (.slice none a b) = .lit (.slice none a b) := rfl
theorem lit_p : litOf (.pointer none) = .lit (.pointer none) := rfl
end
section
variable {i n g : Nat} {c : Cx} {c' : Dx} {st : St}
theorem a_mov {x : Opd} : A c st (.mov x) = Y c st (some (st.ev x, st.M)) := or_no (by simp [Wsp])
theorem d_mov {x : Opd} : AD c' st (.mov x) = YD c' st (some ((st.restr c'.t).ev x, (st.restr c'.t).M)) := rfl
theorem a_nilf {lab : Bool} {k : Nat} : A c st (.nilf lab k) = Y c st (some (.frz lab k 0 [], st.M)) := or_no (by simp [Wsp])
theorem d_nilf {lab : Bool} {k : Nat} : AD c' st (.nilf lab k) = YD c' st (some (.frz lab k 0 [], (st.restr c'.t).M)) := rfl
theorem a_ifc {t : TypeId} {x : Opd} : A c st (.ifc t x) = Y c st (some (.ifc t (st.ev x), st.M)) := or_no (by simp [Wsp])
theorem d_ifc {t : TypeId} {x : Opd} : AD c' st (.ifc t x) = YD c' st (some (.ifc t ((st.restr c'.t).ev x), (st.restr c'.t).M)) := rfl
theorem a_nilr {id : Nat} {e : TypeId} {k : Nat} : A c st (.nilr id e k) = Y c st (astep c.i st (.nilr id e k)) := or_no (by simp [Wsp])
theorem d_nilr {id : Nat} {e : TypeId} {k : Nat} : AD c' st (.nilr id e k) = YD c' st (astep c'.i (st.restr c'.t) (.nilr id e k)) := rfl
theorem a_bin {b : BinOp} {x y : Opd} : A c st (.bin b x y) = Y c st (astep c.i st (.bin b x y)) := or_no (by simp [Wsp])
theorem d_bin {b : BinOp} {x y : Opd} : AD c' st (.bin b x y) = YD c' st (astep c'.i (st.restr c'.t) (.bin b x y)) := rfl
theorem a_beq {neg : Bool} {x y : Opd} : A c st (.beq neg x y) = Y c st (astep c.i st (.beq neg x y)) := or_no (by simp [Wsp])
theorem d_beq {neg : Bool} {x y : Opd} : AD c' st (.beq neg x y) = YD c' st (astep c'.i (st.restr c'.t) (.beq neg x y)) := rfl
theorem a_aeq {neg : Bool} {ds : List TypeDesc} {x y : Opd} : A c st (.aeq neg ds x y) = Y c st (astep c.i st (.aeq neg ds x y)) := or_no (by simp [Wsp])
theorem d_aeq {neg : Bool} {ds : List TypeDesc} {x y : Opd} : AD c' st (.aeq neg ds x y) = YD c' st (astep c'.i (st.restr c'.t) (.aeq neg ds x y)) := rfl
theorem a_un {u : UnOp} {x : Opd} : A c st (.un u x) = Y c st (astep c.i st (.un u x)) := or_no (by simp [Wsp])
theorem d_un {u : UnOp} {x : Opd} : AD c' st (.un u x) = YD c' st (astep c'.i (st.restr c'.t) (.un u x)) := rfl
theorem a_conv {k : IntKind} {x : Opd} : A c st (.conv k x) = Y c st (astep c.i st (.conv k x)) := or_no (by simp [Wsp])
theorem d_conv {k : IntKind} {x : Opd} : AD c' st (.conv k x) = YD c' st (astep c'.i (st.restr c'.t) (.conv k x)) := rfl
theorem a_len {x : Opd} : A c st (.len x) = Y c st (astep c.i st (.len x)) := or_no (by simp [Wsp])
theorem d_len {x : Opd} : AD c' st (.len x) = YD c' st (astep c'.i (st.restr c'.t) (.len x)) := rfl
theorem a_lenm {x : Opd} : A c st (.lenm x) = Y c st (astep c.i st (.lenm x)) := or_no (by simp [Wsp])
theorem d_lenm {x : Opd} : AD c' st (.lenm x) = YD c' st (astep c'.i (st.restr c'.t) (.lenm x)) := rfl
theorem a_lens {x : Opd} : A c st (.lens x) = Y c st (astep c.i st (.lens x)) := or_no (by simp [Wsp])
theorem d_lens {x : Opd} : AD c' st (.lens x) = YD c' st (astep c'.i (st.restr c'.t) (.lens x)) := rfl
theorem a_b2s {x : Opd} : A c st (.b2s x) = Y c st (astep c.i st (.b2s x)) := or_no (by simp [Wsp])
theorem d_b2s {x : Opd} : AD c' st (.b2s x) = YD c' st (astep c'.i (st.restr c'.t) (.b2s x)) := rfl
theorem a_nck {x : Opd} : A c st (.nck x) = Y c st (astep c.i st (.nck x)) := or_no (by simp [Wsp])
theorem d_nck {x : Opd} : AD c' st (.nck x) = YD c' st (astep c'.i (st.restr c'.t) (.nck x)) := rfl
theorem a_idxA {k : Nat} {x i_ : Opd} : A c st (.idxA k x i_) = Y c st (astep c.i st (.idxA k x i_)) := or_no (by simp [Wsp])
theorem d_idxA {k : Nat} {x i_ : Opd} : AD c' st (.idxA k x i_) = YD c' st (astep c'.i (st.restr c'.t) (.idxA k x i_)) := rfl
theorem a_fldA {off n_ : Nat} {x : Opd} : A c st (.fldA off n_ x) = Y c st (astep c.i st (.fldA off n_ x)) := or_no (by simp [Wsp])
theorem d_fldA {off n_ : Nat} {x : Opd} : AD c' st (.fldA off n_ x) = YD c' st (astep c'.i (st.restr c'.t) (.fldA off n_ x)) := rfl
theorem a_idxS {x i_ : Opd} : A c st (.idxS x i_) = Y c st (astep c.i st (.idxS x i_)) := or_no (by simp [Wsp])
theorem d_idxS {x i_ : Opd} : AD c' st (.idxS x i_) = YD c' st (astep c'.i (st.restr c'.t) (.idxS x i_)) := rfl
theorem a_slc {k : Nat} {x : Opd} {lo hi : Option Opd} : A c st (.slc k x lo hi) = Y c st (astep c.i st (.slc k x lo hi)) := or_no (by simp [Wsp])
theorem d_slc {k : Nat} {x : Opd} {lo hi : Option Opd} : AD c' st (.slc k x lo hi) = YD c' st (astep c'.i (st.restr c'.t) (.slc k x lo hi)) := rfl
theorem a_sls {x : Opd} {lo hi : Option Opd} : A c st (.sls x lo hi) = Y c st (astep c.i st (.sls x lo hi)) := or_no (by simp [Wsp])
theorem d_sls {x : Opd} {lo hi : Option Opd} : AD c' st (.sls x lo hi) = YD c' st (astep c'.i (st.restr c'.t) (.sls x lo hi)) := rfl
theorem a_mk {id : Nat} {e : TypeId} {k by_ : Nat} {z : List Value} {x y : Opd} : A c st (.mk id e k by_ z x y) = Y c st (astep c.i st (.mk id e k by_ z x y)) := or_no (by simp [Wsp])
theorem d_mk {id : Nat} {e : TypeId} {k by_ : Nat} {z : List Value} {x y : Opd} : AD c' st (.mk id e k by_ z x y) = YD c' st (astep c'.i (st.restr c'.t) (.mk id e k by_ z x y)) := rfl
theorem a_sl {id : Nat} {e : TypeId} {k len : Nat} {z : List Value} {parts : List (Nat × Opd)} : A c st (.sl id e k len z parts) = Y c st (astep c.i st (.sl id e k len z parts)) := or_no (by simp [Wsp])
theorem d_sl {id : Nat} {e : TypeId} {k len : Nat} {z : List Value} {parts : List (Nat × Opd)} : AD c' st (.sl id e k len z parts) = YD c' st (astep c'.i (st.restr c'.t) (.sl id e k len z parts)) := rfl
theorem a_bld {z : List Value} {parts : List (Nat × Nat × Opd)} : A c st (.bld z parts) = Y c st (astep c.i st (.bld z parts)) := or_no (by simp [Wsp])
theorem d_bld {z : List Value} {parts : List (Nat × Nat × Opd)} : AD c' st (.bld z parts) = YD c' st (astep c'.i (st.restr c'.t) (.bld z parts)) := rfl
theorem a_fld {off n_ : Nat} {ag : Bool} {x : Opd} : A c st (.fld off n_ ag x) = Y c st (astep c.i st (.fld off n_ ag x)) := or_no (by simp [Wsp])
theorem d_fld {off n_ : Nat} {ag : Bool} {x : Opd} : AD c' st (.fld off n_ ag x) = YD c' st (astep c'.i (st.restr c'.t) (.fld off n_ ag x)) := rfl
theorem a_ext {i_ : Nat} {x : Opd} : A c st (.ext i_ x) = Y c st (astep c.i st (.ext i_ x)) := or_no (by simp [Wsp])
theorem d_ext {i_ : Nat} {x : Opd} : AD c' st (.ext i_ x) = YD c' st (astep c'.i (st.restr c'.t) (.ext i_ x)) := rfl
theorem a_box {id : Nat} {t : TypeId} {n_ : Nat} {x : Opd} : A c st (.box id t n_ x) = Y c st (astep c.i st (.box id t n_ x)) := or_no (by simp [Wsp])
theorem d_box {id : Nat} {t : TypeId} {n_ : Nat} {x : Opd} : AD c' st (.box id t n_ x) = YD c' st (astep c'.i (st.restr c'.t) (.box id t n_ x)) := rfl
theorem a_alc {id : Nat} {t : TypeId} {z : List Value} : A c st (.alc id t z) = Y c st (astep c.i st (.alc id t z)) := or_no (by simp [Wsp])
theorem d_alc {id : Nat} {t : TypeId} {z : List Value} : AD c' st (.alc id t z) = YD c' st (astep c'.i (st.restr c'.t) (.alc id t z)) := rfl
theorem a_mkm {id : Nat} {kt vt : TypeId} : A c st (.mkm id kt vt) = Y c st (astep c.i st (.mkm id kt vt)) := or_no (by simp [Wsp])
theorem d_mkm {id : Nat} {kt vt : TypeId} : AD c' st (.mkm id kt vt) = YD c' st (astep c'.i (st.restr c'.t) (.mkm id kt vt)) := rfl
theorem a_lkp {ok : Bool} {kd : TypeDesc} {z : Value} {m k : Opd} : A c st (.lkp ok kd z m k) = Y c st (astep c.i st (.lkp ok kd z m k)) := or_no (by simp [Wsp])
theorem d_lkp {ok : Bool} {kd : TypeDesc} {z : Value} {m k : Opd} : AD c' st (.lkp ok kd z m k) = YD c' st (astep c'.i (st.restr c'.t) (.lkp ok kd z m k)) := rfl
theorem a_mset {kd : TypeDesc} {m k v : Opd} : A c st (.mset kd m k v) = Y c st (astep c.i st (.mset kd m k v)) := or_no (by simp [Wsp])
theorem d_mset {kd : TypeDesc} {m k v : Opd} : AD c' st (.mset kd m k v) = YD c' st (astep c'.i (st.restr c'.t) (.mset kd m k v)) := rfl
theorem a_clo {f : Nat} {xs : List Opd} : A c st (.clo f xs) = Y c st (astep c.i st (.clo f xs)) := or_no (by simp [Wsp])
theorem d_clo {f : Nat} {xs : List Opd} : AD c' st (.clo f xs) = YD c' st (astep c'.i (st.restr c'.t) (.clo f xs)) := rfl
theorem a_load {n_ : Nat} {ag : Bool} {x : Opd} : A c st (.load n_ ag x) = Y c st ((st.cells (st.ev x)).bind fun cs => (loadv n_ ag cs).map fun r => (r, st.M)) := (or_no (by simp [Wsp])).trans (by unfold Y wact; rw [← s_load])
theorem d_load {n_ : Nat} {ag : Bool} {x : Opd} : AD c' st (.load n_ ag x) = YD c' st (((st.restr c'.t).cells ((st.restr c'.t).ev x)).bind fun cs => (loadv n_ ag cs).map fun r => (r, (st.restr c'.t).M)) := by unfold AD YD wact; rw [← s_load]
theorem a_store {n_ : Nat} {x v : Opd} : A c st (.store n_ x v) = Y c st (storev st n_ (st.ev v) (st.ev x)) := (or_no (by simp [Wsp])).trans (by unfold Y wact; rw [← s_store])
theorem d_store {n_ : Nat} {x v : Opd} : AD c' st (.store n_ x v) = YD c' st (storev (st.restr c'.t) n_ ((st.restr c'.t).ev v) ((st.restr c'.t).ev x)) := by unfold AD YD wact; rw [← s_store]
theorem a_app {id : Nat} {e : TypeId} {k by_ : Nat} {x y : Opd} : A c st (.app id e k by_ x y) = Y c st ((st.row k (st.ev y)).bind fun p => appv st id c.i e k by_ p.1 p.2 (st.ev x)) := (or_no (by simp [Wsp])).trans (by unfold Y wact; rw [← s_app])
theorem d_app {id : Nat} {e : TypeId} {k by_ : Nat} {x y : Opd} : AD c' st (.app id e k by_ x y) = YD c' st (((st.restr c'.t).row k ((st.restr c'.t).ev y)).bind fun p => appv (st.restr c'.t) id c'.i e k by_ p.1 p.2 ((st.restr c'.t).ev x)) := by unfold AD YD wact; rw [← s_app]
theorem a_call {f : Nat} {xs : List Opd} : A c st (.call f xs) = YC c st f (xs.map st.ev) := by
  unfold A YC wact
  congr 1
  apply propext
  constructor
  · rintro ⟨f', xs', R, r, M', e, h1, h2, h3⟩
    injection e with e1 e2; subst e1; subst e2
    exact ⟨R, r, M', h1, h2, h3⟩
  · rintro ⟨R, r, M', h1, h2, h3⟩
    exact ⟨f, xs, R, r, M', rfl, h1, h2, h3⟩
theorem d_call {f : Nat} {xs : List Opd} : AD c' st (.call f xs) = YCD c' st f (xs.map (st.restr c'.t).ev) := rfl
theorem a_pick {b x y : Opd} : A c st (.pick b x y) = YB (st.ev b) c st (st.ev x) (st.ev y) := by
  refine (or_no (by simp [Wsp])).trans ?_
  unfold wact YB; simp only; generalize st.ev b = z; cases z <;> try rfl
theorem d_pick {b x y : Opd} : AD c' st (.pick b x y) = YBD ((st.restr c'.t).ev b) c' st ((st.restr c'.t).ev x) ((st.restr c'.t).ev y) := by
  unfold AD wact YBD; simp only; generalize (st.restr c'.t).ev b = z; cases z <;> try rfl
end
/-- One round of a loop. -/
theorem W.go {Γ : Ctx} {a a' : AC} {kp : Kp} {st : St} {Q : Exit → St → Prop} (e : a = a') (h : X Γ a' (st.keep kp) [.lp a kp] Q) : W Γ (.loop a kp) st Q := by
  subst e; exact W.round h
theorem W.top {Γ : Ctx} {a a' : AC} {st : St} {Q : Exit → St → Prop} (e : a = a') (h : X Γ a' st [] Q) : W Γ a st Q := by
  subst e; exact wx_W h
/-- A call. -/
theorem YC.of {c : Cx} {st : St} {f : Nat} {xs : List AV} {l : Bool} {R : List AV → AV → Prop} (hΓ : c.Γ f = some (l, R)) (args : List AV) (r : AV) (hR : R args r) (hc : CvL st (!l) xs args) (k : Y c st (some (r, st.M))) : YC c st f xs := .inl (Wcall.of hΓ args r hR hc k)
theorem YC.sp {c : Cx} {st : St} {f : Nat} {xs : List AV} {R : Nat → St → List AV → AV → List (Option Blk) → Prop} (hΓ : c.Γ.sp f = some R) (r : AV) (M' : List (Option Blk)) (hR : R c.i st xs r M') (k : Y c st (some (r, M'))) : YC c st f xs := .inr ⟨R, r, M', hΓ, hR, k⟩
theorem YCD.of {c : Dx} {st : St} {f : Nat} {xs : List AV} {l : Bool} {R : List AV → AV → Prop} (hΓ : c.Γ f = some (l, R)) (args : List AV) (r : AV) (hR : R args r) (hc : CvL (st.restr c.t) (!l) xs args) (k : YD c st (some (r, (st.restr c.t).M))) : YCD c st f xs := Wcall.of hΓ args r hR hc k
end Go.Proofs.YtbpajecjaoefaaaGreat.V

/- The abstract machine: the rules at typed lists; all rules as one. -/
namespace Go.Proofs.YtbpajecjaoefaaaGreat.V
open Go Go.RowKit

-- operators
theorem semVal_pure (v : Value) : semVal (pure v) = some v := rfl
theorem semVal_panic (c : RuntimeError) : semVal (runtimePanic c) = none := rfl
section
variable {t : TypeId} {k : IntKind} {a b : Int} {x y : ByteArray}
theorem v_add : semVal (binOp .add t (.int k a) (.int k b)) = some (.int k (k.wrap (a + b))) := by simp [binOp, Op.intArith, semVal_pure]
theorem v_sub : semVal (binOp .sub t (.int k a) (.int k b)) = some (.int k (k.wrap (a - b))) := by simp [binOp, Op.intArith, semVal_pure]
theorem v_mul : semVal (binOp .mul t (.int k a) (.int k b)) = some (.int k (k.wrap (a * b))) := by simp [binOp, Op.intArith, semVal_pure]
theorem v_eql : semVal (binOp .eql t (.int k a) (.int k b)) = some (.bool (decide (a = b))) := by
  simp only [binOp, ne_eq, not_true_eq_false, if_false, Op.intCmp, semVal_pure]; congr 2
theorem v_neq : semVal (binOp .neq t (.int k a) (.int k b)) = some (.bool (!decide (a = b))) := by
  simp only [binOp, ne_eq, not_true_eq_false, if_false, Op.intCmp, semVal_pure]; congr 2
theorem v_lss : semVal (binOp .lss t (.int k a) (.int k b)) = some (.bool (decide (a < b))) := by simp [binOp, Op.intCmp, semVal_pure]
theorem v_leq : semVal (binOp .leq t (.int k a) (.int k b)) = some (.bool (decide (a ≤ b))) := by simp [binOp, Op.intCmp, semVal_pure]
theorem v_gtr : semVal (binOp .gtr t (.int k a) (.int k b)) = some (.bool (decide (b < a))) := by simp [binOp, Op.intCmp, semVal_pure]
theorem v_geq : semVal (binOp .geq t (.int k a) (.int k b)) = some (.bool (decide (b ≤ a))) := by simp [binOp, Op.intCmp, semVal_pure]
theorem v_quo : semVal (binOp .quo t (.int k a) (.int k b)) = if b = 0 then none else some (.int k (k.wrap (a.tdiv b))) := by
  simp only [binOp, ne_eq, not_true_eq_false, if_false, Op.intDiv]; by_cases h : b = 0 <;> simp [h, semVal_pure, semVal_panic]
theorem v_rem : semVal (binOp .rem t (.int k a) (.int k b)) = if b = 0 then none else some (.int k (a.tmod b)) := by
  simp only [binOp, ne_eq, not_true_eq_false, if_false, Op.intDiv]; by_cases h : b = 0 <;> simp [h, semVal_pure, semVal_panic]
theorem v_shr {k' : IntKind} : semVal (binOp .shr t (.int k a) (.int k' b)) = if b < 0 then none else some (.int k (a.fdiv (2 ^ (min b.toNat k.bits)))) := by
  simp only [binOp, Op.shift]; by_cases h : b < 0 <;> simp [h, semVal_pure, semVal_panic]
theorem v_seq : semVal (binOp .eql t (.string x) (.string y)) = some (.bool (x.toList == y.toList)) := by simp [binOp, Op.stringOp, semVal_pure]
theorem v_sne : semVal (binOp .neq t (.string x) (.string y)) = some (.bool (!(x.toList == y.toList))) := by simp [binOp, Op.stringOp, semVal_pure]
theorem v_slt : semVal (binOp .lss t (.string x) (.string y)) = some (.bool (Op.bytesLess x.toList y.toList)) := by simp [binOp, Op.stringOp, semVal_pure]
theorem p_int {k' : IntKind} : plain2 (.int k a) (.int k' b) = true := rfl
theorem p_str : plain2 (.string x) (.string y) = true := rfl
theorem v_not {q : Bool} : semVal (Op.unary .not (.bool q)) = some (.bool !q) := by simp [Op.unary, semVal_pure]
end

/-- All elements have so many cells. -/
class CL {α : Type} (f : α → List AV) (k : Nat) : Prop where
  len : ∀ x, (f x).length = k
instance {α : Type} (f : α → AV) : CL (c1 f) 1 := ⟨fun _ => rfl⟩
theorem c1_is {α : Type} (f : α → AV) (x : α) : c1 f x = [f x] := rfl
theorem flat_len {α : Type} {f : α → List AV} {k : Nat} (hf : ∀ x, (f x).length = k) : ∀ l : List α, (l.flatMap f).length = l.length * k
  | [] => by simp
  | x :: l => by simp only [List.flatMap_cons, List.length_append, hf, flat_len hf l, List.length_cons, Nat.succ_mul]; omega
section
variable {α : Type} {f : α → List AV} {f1 : α → AV} {k n : Nat} {l m : List α} {v : α} {j : Int} {M : List (Option Blk)} {K : AV → List (Option Blk) → Prop} {g g' : Gen} {e : TypeId} {c : Prop}
theorem t_idx [Inhabited α] [h : CL f k] [Decidable (0 ≤ j ∧ j < (l.length : Int))] {c : Cx} {st : St} : Y c st (if 0 ≤ j ∧ j < (l.length : Int) then some (AV.fptr (((l.flatMap f).drop (j.toNat * k)).take k), M) else none) = ((0 ≤ j ∧ j < (l.length : Int)) ∧ Y c st (some (.fptr (f (gt l j)), M))) := by
  by_cases hj : 0 ≤ j ∧ j < (l.length : Int)
  · rw [if_pos hj, flat_at h.len default (by omega)]; simp only [hj, true_and, and_true]; rfl
  · rw [if_neg hj]; simp [Y, Wr, hj]
theorem t_idxD [Inhabited α] [h : CL f k] [Decidable (0 ≤ j ∧ j < (l.length : Int))] {c : Dx} {st : St} : YD c st (if 0 ≤ j ∧ j < (l.length : Int) then some (AV.fptr (((l.flatMap f).drop (j.toNat * k)).take k), M) else none) = ((0 ≤ j ∧ j < (l.length : Int)) ∧ YD c st (some (.fptr (f (gt l j)), M))) := by
  by_cases hj : 0 ≤ j ∧ j < (l.length : Int)
  · rw [if_pos hj, flat_at h.len default (by omega)]; simp only [hj, true_and, and_true]; rfl
  · rw [if_neg hj]; simp [YD, Wr, hj]
theorem t_load1 [Inhabited α] : loadv 1 false ((l.flatMap (c1 f1)).drop (j.toNat * 1)) = if j.toNat < l.length then some (f1 (gt l j)) else none := by
  unfold loadv
  have hl : (l.flatMap (c1 f1)).length = l.length := by rw [flat_len (f := c1 f1) (k := 1) (fun _ => rfl)]; omega
  by_cases hj : j.toNat < l.length
  · rw [if_pos (by rw [List.length_drop, hl]; omega), if_pos hj]
    have h := flat_at (f := c1 f1) (k := 1) (fun _ => rfl) (l := l) (n := j.toNat) default hj
    cases e : (l.flatMap (c1 f1)).drop (j.toNat * 1) with
    | nil => rw [e] at h; simp [c1] at h
    | cons x xs =>
      rw [e] at h
      simp only [List.take_succ_cons, List.take_zero, c1, List.cons.injEq, and_true] at h
      simp only [Bool.false_eq_true, if_false]; rw [h]; rfl
  · rw [if_neg (by rw [List.length_drop, hl]; omega), if_neg hj]
theorem t_loadk [Inhabited α] [h : CL f k] : loadv k true ((l.flatMap f).drop (j.toNat * k)) = if (j.toNat + 1) * k ≤ l.length * k then some (.agg (((l.flatMap f).drop (j.toNat * k)).take k)) else none := by
  unfold loadv
  rw [List.length_drop, flat_len h.len]
  by_cases hk : k = 0
  · subst hk; simp
  · have e : (k ≤ l.length * k - j.toNat * k) = ((j.toNat + 1) * k ≤ l.length * k) := by
      rw [Nat.succ_mul]
      apply propext
      constructor <;> intro _ <;> omega
    simp only [e, if_true]
theorem y_none {c : Cx} {st : St} : Y c st none = False := rfl
theorem yd_none {c : Dx} {st : St} : YD c st none = False := rfl
def isF : AV → Bool | .fptr _ => true | _ => false
theorem y_ite {q : Prop} [Decidable q] {c : Cx} {st : St} {r : AV} (h : isF r = false) : Y c st (if q then some (r, M) else none) = (q ∧ Y c st (some (r, M))) := by
  by_cases h : q
  · simp [h]
  · simp [h, Y, Wr]
theorem yd_ite {q : Prop} [Decidable q] {c : Dx} {st : St} {r : AV} (h : isF r = false) : YD c st (if q then some (r, M) else none) = (q ∧ YD c st (some (r, M))) := by
  by_cases h : q
  · simp [h]
  · simp [h, YD, Wr]
theorem i_ptr {id off : Nat} {g : Gen} : isF (.ptr id g off) = false := rfl
theorem i_own {id : Nat} {g : Gen} : isF (.own id g) = false := rfl
theorem i_sub {id k off len : Nat} {g : Gen} : isF (.sub id g k off len) = false := rfl
theorem i_lit {v : Value} : isF (.lit v) = false := rfl
theorem i_frz {lab : Bool} {k n : Nat} {cs : List AV} : isF (.frz lab k n cs) = false := rfl
theorem i_agg {cs : List AV} : isF (.agg cs) = false := rfl
theorem i_tup {cs : List AV} : isF (.tup cs) = false := rfl
theorem i_map {id : Nat} {g : Gen} : isF (.mapr id g) = false := rfl
theorem i_junk : isF .junk = false := rfl
theorem map_ite {q : Prop} [Decidable q] {β γ : Type} {b : β} {F : β → γ} : Option.map F (if q then some b else none) = if q then some (F b) else none := by
  by_cases h : q <;> simp [h]
theorem map_iten {q : Prop} [Decidable q] {β γ : Type} {b : β} {F : β → γ} : Option.map F (if q then none else some b) = if q then none else some (F b) := by
  by_cases h : q <;> simp [h]
theorem y_iten {q : Prop} [Decidable q] {c : Cx} {st : St} {r : AV} : Y c st (if q then none else some (r, M)) = (¬ q ∧ Y c st (some (r, M))) := by
  by_cases h : q
  · simp [h, Y, Wr]
  · simp [h]
theorem yd_iten {q : Prop} [Decidable q] {c : Dx} {st : St} {r : AV} : YD c st (if q then none else some (r, M)) = (¬ q ∧ YD c st (some (r, M))) := by
  by_cases h : q
  · simp [h, YD, Wr]
  · simp [h]
theorem map_some' {β γ : Type} {b : β} {F : β → γ} : Option.map F (some b) = some (F b) := rfl
theorem bind_some' {β γ : Type} {b : β} {F : β → Option γ} : Option.bind (some b) F = F b := rfl
theorem splice1 {x : AV} : ∀ {cs : List AV} {o : Nat}, splice cs o [x] = cs.set o x := rfl
theorem flat_set : ∀ {l : List α} {n : Nat}, (l.flatMap (c1 f1)).set n (f1 v) = (l.set n v).flatMap (c1 f1)
  | [], n => by simp
  | x :: l, 0 => by simp [c1]
  | x :: l, n + 1 => by simp only [List.flatMap_cons, c1, List.singleton_append, List.set_cons_succ]; rw [← flat_set (l := l)]
theorem t_store1 : storeB (some (.row g e k n (l.flatMap (c1 f1)))) (j.toNat * 1) 1 [f1 v] = if j.toNat < l.length then some (.row g e k n ((l.set j.toNat v).flatMap (c1 f1))) else none := by
  unfold storeB
  simp only [splice1, Nat.mul_one, flat_set]
  have hl : (l.flatMap (c1 f1)).length = l.length := by rw [flat_len (f := c1 f1) (k := 1) (fun _ => rfl)]; omega
  rw [hl]
  by_cases hj : j.toNat < l.length
  · rw [if_pos hj, if_pos (by omega)]
  · rw [if_neg hj, if_neg (by omega)]
theorem t_app1 {by_ : Nat} : appB (some (.row g e 1 n (l.flatMap (c1 f1)))) g' e 1 by_ 1 [f1 v] = if (n + 1) * by_ ≤ 140737488355328 ∧ n + 1 ≤ 9223372036854775807 ∧ av1 (f1 v) = true then some (.row g' e 1 (n + 1) ((l ++ [v]).flatMap (c1 f1))) else none := by
  simp [appB, c1]
theorem t_appk {by_ : Nat} : appB (some (.row g e k n (l.flatMap f))) g' e k by_ m.length (m.flatMap f) = if (n + m.length) * by_ ≤ 140737488355328 ∧ n + m.length ≤ 9223372036854775807 ∧ (m.flatMap f).all av1 = true then some (.row g' e k (n + m.length) ((l ++ m).flatMap f)) else none := by
  simp [appB]
theorem st_box {g : Gen} {t : TypeId} {cs ys : List AV} {off n : Nat} : storeB (some (.box g t cs)) off n ys = if off + n ≤ cs.length then some (.box g t (splice cs off ys)) else none := rfl
theorem k_str {s : ByteArray} : keyOK .string (.string s) = true := rfl
theorem k_int {kd : IntKind} {z : Int} : keyOK (.int kd) (.int kd z) = true := by simp [keyOK]
theorem t_app2 {by_ : Nat} {v' : α} : appB (some (.row g e 1 n (l.flatMap (c1 f1)))) g' e 1 by_ 2 [f1 v, f1 v'] = if (n + 2) * by_ ≤ 140737488355328 ∧ n + 2 ≤ 9223372036854775807 ∧ av1 (f1 v) = true ∧ av1 (f1 v') = true then some (.row g' e 1 (n + 2) ((l ++ [v, v']).flatMap (c1 f1))) else none := by
  simp [appB, c1]
theorem all_av1 (h : ∀ x, av1 (f1 x) = true) : (l.flatMap (c1 f1)).all av1 = true := by
  rw [List.all_eq_true]; intro x hx
  rw [List.mem_flatMap] at hx
  obtain ⟨y, _, hy⟩ := hx
  simp only [c1, List.mem_singleton] at hy; subst hy; exact h y
/-- A row that is made. -/
theorem t_mk {x : AV} {N : Nat} : (List.replicate N [x]).flatten = (List.replicate N ()).flatMap (c1 fun _ => x) := by
  induction N with
  | zero => rfl
  | succ N ih => simp only [List.replicate_succ, List.flatten_cons, List.flatMap_cons, ih]; rfl
theorem t_mki {kd : IntKind} {z N : Int} : (List.replicate N.toNat [AV.lit (.int kd z)]).flatten = (List.replicate N.toNat z).flatMap (c1 (eN kd)) := by
  generalize N.toNat = N
  induction N with
  | zero => rfl
  | succ N ih => simp only [List.replicate_succ, List.flatten_cons, List.flatMap_cons, ih]; rfl
theorem t_mkb {z : Bool} {N : Int} : (List.replicate N.toNat [AV.lit (.bool z)]).flatten = (List.replicate N.toNat z).flatMap (c1 eB) := by
  generalize N.toNat = N
  induction N with
  | zero => rfl
  | succ N ih => simp only [List.replicate_succ, List.flatten_cons, List.flatMap_cons, ih]; rfl
theorem blk_is {T : List AV} {id q : Nat} {g : Gen} : St.blk ⟨T, M, q⟩ id g = match M[id]? with | some (some B) => if B.g = g then some B else none | _ => none := rfl
end
section
variable {st : St} {k n : Nat} {x : AV} {xs cs : List AV} {b : Bool} {kd : IntKind} {z : Int} {v : Value} {s : ByteArray} {id off : Nat} {g : Gen} {t : TypeId}
theorem h_int : intOf' (.lit (.int kd z)) = some z := rfl
theorem h_str : strOf' (.lit (.string s)) = some s := rfl
theorem c_ptr : st.cells (.ptr id g off) = match st.blk id g with | some (.row _ _ _ _ cs) => some (cs.drop off) | some (.box _ _ cs) => some (cs.drop off) | _ => none := rfl
theorem c_fptr : st.cells (.fptr cs) = some cs := rfl
theorem r_own : st.row k (.own id g) = match st.blk id g with | some (.row _ _ k' n cs) => if k' = k then some (n, cs) else none | _ => none := rfl
theorem r_sub {k' off len : Nat} : st.row k (.sub id g k' off len) = match st.blk id g with | some (.row _ _ k2 n cs) => if k' = k ∧ k2 = k ∧ off + len ≤ n then some (len, (cs.drop (off * k)).take (len * k)) else none | _ => none := rfl
theorem r_frz {lab : Bool} : st.row k (.frz lab k n cs) = some (n, cs) := by simp [St.row]
theorem r_nil : st.row k (.lit (.slice none 0 0)) = some (0, []) := rfl
theorem h_avc_lit : avc (.lit v) = [.lit v] := rfl
theorem h_avc_frz {lab : Bool} : avc (.frz lab k n cs) = [.frz lab k n cs] := rfl
theorem h_avc_own : avc (.own id g) = [.own id g] := rfl
theorem h_avc_ptr : avc (.ptr id g off) = [.ptr id g off] := rfl
theorem h_avc_map : avc (.mapr id g) = [.mapr id g] := rfl
theorem h_avc_agg : avc (.agg cs) = cs := rfl
theorem h_avs_lit : avs (.lit v) = v.oneCell' := rfl
theorem h_avs_frz {lab : Bool} : avs (.frz lab k n cs) = true := rfl
theorem h_avs_own : avs (.own id g) = true := rfl
theorem h_avs_ptr : avs (.ptr id g off) = true := rfl
theorem h_avs_map : avs (.mapr id g) = true := rfl
theorem h_avs_agg : avs (.agg cs) = cs.all av1 := rfl
theorem h_av1_lit : av1 (.lit v) = v.oneCell' := rfl
theorem h_av1_frz {lab : Bool} : av1 (.frz lab k n cs) = true := rfl
theorem h_av1_own : av1 (.own id g) = true := rfl
theorem h_one_i : (Value.int kd z).oneCell' = true := rfl
theorem h_one_b : (Value.bool b).oneCell' = true := rfl
theorem h_one_s : (Value.string s).oneCell' = true := rfl
theorem h_one_l : (Value.slice none 0 0).oneCell' = true := rfl
theorem h_one_p : (Value.pointer none).oneCell' = true := rfl
theorem l_one : loadv 1 false [x] = some x := rfl
theorem l_one2 {y : AV} : loadv 1 false (x :: y :: xs) = some x := rfl
theorem s_nil {o : Nat} : splice cs o [] = cs := rfl
theorem s_cons {o : Nat} : splice cs o (x :: xs) = splice (cs.set o x) (o + 1) xs := rfl
theorem st_own : storev st n x (.ptr id g off) = if (avc x).length = n ∧ avs x = true then (storeB (st.blk id g) off n (avc x)).map fun B => (.junk, st.M.set id (some B)) else none := rfl
theorem ap_own {i : Nat} {e : TypeId} {by_ m : Nat} {i' : Nat} : appv st i i' e k by_ m cs (.own id g) = (appB (st.blk id g) (st.g, i') e k by_ m cs).map fun B => (.own id (st.g, i'), st.M.set id (some B)) := rfl
end
section
variable {Γ : Ctx} {i g m : Nat} {M : List (Option Blk)} {Q : Exit → St → Prop} {k : List Fm} {kp : Kp} {st : St} {d : Option Nat} {cs : List COp} {ao : AO} {T : List AV} {t : Option (List Nat)} {w : List Nat} {n : Nat} {l : List (Nat × AV)}
theorem od_nilr : OD Γ i [] (List.replicate 0 ⟨t, w⟩) ⟨T, M, g⟩ kp k Q = Un Γ .normal (St.keep ⟨T, M, g + 1⟩ kp) k Q := rfl
theorem od_consr : OD Γ i (⟨d, none, ao⟩ :: cs) (List.replicate (m + 1) ⟨t, w⟩) st kp k Q = AD ⟨Γ, i, d, cs, w, t, List.replicate m ⟨t, w⟩, kp, k, Q⟩ st ao := rfl
theorem od_guardr {s : Nat} {b : Bool} (h : s < n) : OD Γ i (⟨d, some (s, b), ao⟩ :: cs) (List.replicate (m + 1) ⟨t, w⟩) ⟨mkT n l, M, g⟩ kp k Q = ODB (lk s l) s b ⟨Γ, i, d, cs, w, t, List.replicate m ⟨t, w⟩, kp, k, Q⟩ ⟨mkT n l, M, g⟩ ao := od_guard h
end
-- all rules
set_option maxRecDepth 4000 in
def VS :=
  And.intro @true_or <| And.intro @or_true <| And.intro @false_or <| And.intro @or_false <| 
  And.intro @true_implies <| And.intro @false_implies <| And.intro @Bool.not_true <| And.intro @Bool.not_false <|
  And.intro @i_ptr <| And.intro @i_own <| And.intro @i_sub <| And.intro @i_lit <| And.intro @i_frz <| And.intro @i_agg <| And.intro @i_tup <| And.intro @i_map <| And.intro @i_junk <|
  And.intro @h_int <| And.intro @h_str <| And.intro @c_ptr <| And.intro @c_fptr <| And.intro @r_own <| And.intro @r_sub <| And.intro @r_frz <| And.intro @r_nil <| And.intro @h_avc_lit <| And.intro @h_avc_frz <| And.intro @h_avc_own <| And.intro @h_avc_ptr <| And.intro @h_avc_map <| And.intro @h_avc_agg <| And.intro @h_avs_lit <| And.intro @h_avs_frz <| And.intro @h_avs_own <| And.intro @h_avs_ptr <| And.intro @h_avs_map <| And.intro @h_avs_agg <| And.intro @h_av1_lit <| And.intro @h_av1_frz <| And.intro @h_av1_own <| And.intro @h_one_i <| And.intro @h_one_b <| And.intro @h_one_s <| And.intro @h_one_l <| And.intro @h_one_p <| And.intro @l_one <| And.intro @l_one2 <| And.intro @s_nil <| And.intro @s_cons <| And.intro @st_own <| And.intro @ap_own <| And.intro @Blk.g.eq_1 <| And.intro @Blk.g.eq_2 <| And.intro @Blk.g.eq_3 <| And.intro @List.replicate_succ.{0} <| And.intro @List.replicate_zero.{0} <| And.intro @List.flatten_cons.{0} <| And.intro @List.flatten_nil.{0} <| And.intro @List.cons_append.{0} <| And.intro @List.nil_append.{0} <| And.intro @List.append_nil.{0} <|
  And.intro @if_true.{1} <| And.intro @if_false.{1} <| And.intro @eq_self.{1} <| And.intro @true_and <| And.intro @and_true <| And.intro @List.contains_cons.{0} <| And.intro @List.elem_nil.{0} <| And.intro @List.contains_nil.{0} <| And.intro @Bool.or_false <| And.intro @Bool.true_or <| And.intro @Bool.or_true <| And.intro @Bool.false_or <| And.intro @beq_self_eq_true.{0} <| And.intro @List.getElem?_cons_zero.{0} <| And.intro @List.getElem?_cons_succ.{0} <| And.intro @List.set_cons_zero.{0} <| And.intro @List.set_cons_succ.{0} <| And.intro @decide_eq_true_eq <| And.intro @decide_eq_false_iff_not <| And.intro @Bool.not_eq_true' <| And.intro @Bool.not_eq_false' <| And.intro @List.all_cons.{0} <| And.intro @List.all_nil.{0} <| And.intro @Bool.and_true <| And.intro @Bool.true_and <| And.intro @decide_true <| And.intro @List.map_cons.{0,0} <| And.intro @List.map_nil.{0,0} <| And.intro @List.length_cons.{0} <| And.intro @List.length_nil.{0} <| And.intro @List.foldl_cons.{0,0} <| And.intro @List.foldl_nil.{0,0} <| And.intro @Bool.false_eq_true <|
  And.intro @od_nilr <| And.intro @od_consr <| And.intro @od_guardr <| 
  And.intro @x_skip <| And.intro @x_reg <| And.intro @x_dreg <| And.intro @x_regc <| And.intro @x_dregc <| And.intro @x_seq <| And.intro @x_block <| And.intro @x_loop <| And.intro @x_exit <| And.intro @x_ret <| And.intro @x_cond <| And.intro @x_condk <| And.intro @xb_b <| And.intro @u_nil <|
  And.intro @u_sn <| And.intro @u_se <| And.intro @u_sr <| And.intro @u_bn <| And.intro @u_be <| And.intro @u_br <| And.intro @u_ln <| And.intro @u_le <| And.intro @u_lr <| And.intro @o_nil <| And.intro @o_cons <| And.intro @o_guard <|
  And.intro @ob_t <| And.intro @ob_f <| And.intro @cnd_s <| And.intro @cnf_s <| And.intro @od_nil <| And.intro @od_cons <| And.intro @od_guard <| And.intro @odb_t <| And.intro @odb_f <| And.intro @y_some <| And.intro @yd_some <| And.intro @yb_b <| And.intro @ybd_b <| And.intro @restr_n <| And.intro @restr_s <| And.intro @upOf_n <|
  And.intro @upOf_s <| And.intro @upM_n <| And.intro @upM_s <| And.intro @maskM_nil <| And.intro @maskM_cons <| And.intro @lk_nil <| And.intro @lk_cons <| And.intro @del_nil <| And.intro @del_cons <| And.intro @ins_is <| And.intro @sel_nil <| And.intro @sel_cons <|
  And.intro @ev_k <| And.intro @ev_f <| And.intro @lit_i <| And.intro @lit_b <| And.intro @lit_s <| And.intro @lit_l <| And.intro @lit_p <| And.intro @a_mov <| And.intro @a_nilf <| And.intro @a_ifc <| And.intro @a_nilr <| And.intro @a_bin <|
  And.intro @a_beq <| And.intro @a_aeq <| And.intro @d_aeq <| And.intro @a_un <| And.intro @a_conv <| And.intro @a_len <| And.intro @a_lenm <| And.intro @a_lens <| And.intro @a_b2s <| And.intro @d_b2s <| And.intro @a_nck <| And.intro @a_idxA <| And.intro @a_fldA <| And.intro @a_idxS <| And.intro @a_slc <| And.intro @a_sls <|
  And.intro @a_mk <| And.intro @a_sl <| And.intro @a_bld <| And.intro @a_fld <| And.intro @a_ext <| And.intro @a_box <| And.intro @a_alc <| And.intro @a_mkm <| And.intro @a_lkp <| And.intro @a_mset <| And.intro @a_clo <| And.intro @a_load <|
  And.intro @a_store <| And.intro @a_app <| And.intro @a_call <| And.intro @a_pick <| And.intro @d_mov <| And.intro @d_nilf <| And.intro @d_ifc <| And.intro @d_nilr <| And.intro @d_bin <| And.intro @d_beq <| And.intro @d_un <| And.intro @d_conv <|
  And.intro @d_len <| And.intro @d_lenm <| And.intro @d_lens <| And.intro @d_nck <| And.intro @d_idxA <| And.intro @d_fldA <| And.intro @d_idxS <| And.intro @d_slc <| And.intro @d_sls <| And.intro @d_mk <| And.intro @d_sl <| And.intro @d_bld <|
  And.intro @d_fld <| And.intro @d_ext <| And.intro @d_box <| And.intro @d_alc <| And.intro @d_mkm <| And.intro @d_lkp <| And.intro @d_mset <| And.intro @d_clo <| And.intro @d_load <| And.intro @d_store <| And.intro @d_app <| And.intro @d_call <|
  And.intro @d_pick <| And.intro @y_none <| And.intro @yd_none <| And.intro @y_ite <| And.intro @yd_ite <| And.intro @map_ite <| And.intro @map_iten <| And.intro @y_iten <| And.intro @yd_iten <| And.intro @map_some' <| And.intro @bind_some' <| And.intro @ev_r <| And.intro @put_some <| And.intro @put_none <| And.intro @keep_mk <|
  And.intro @blk_is <| And.intro @v_add <| And.intro @v_sub <| And.intro @v_mul <| And.intro @v_eql <| And.intro @v_neq <| And.intro @v_lss <| And.intro @v_leq <| And.intro @v_gtr <| And.intro @v_geq <| And.intro @v_quo <| And.intro @v_rem <| And.intro @v_shr <|
  And.intro @v_seq <| And.intro @v_sne <| And.intro @v_slt <| And.intro @v_not <| And.intro @p_int <| And.intro @p_str <| And.intro @t_idx <| And.intro @t_idxD <| And.intro @c1_is <| And.intro @t_load1 <| And.intro @t_store1 <| And.intro @t_app1 <| And.intro @st_box <| And.intro @k_str <| And.intro @k_int <| And.intro @List.drop_zero.{0} <| And.intro @List.drop_succ_cons.{0} <| And.intro @t_app2 <|
  And.intro @t_appk <| And.intro @t_mki <|
  @t_mkb
end Go.Proofs.YtbpajecjaoefaaaGreat.V

/- The abstract machine: contracts of functions, out of their runs; what is handed over. -/
namespace Go.Proofs.YtbpajecjaoefaaaGreat.V
open Go Go.RowKit

/-- A function with its contract. -/
structure Ent where
  f : Nat
  leak : Bool
  R : List AV → AV → Prop
def ctxF : List Ent → FuncId → Option (Bool × (List AV → AV → Prop))
  | [] => fun _ => none
  | e :: es => fun f => if f = e.f then some (e.leak, e.R) else ctxF es f
/-- A function that writes what it is handed. -/
structure Spe where
  f : Nat
  R : Nat → St → List AV → AV → List (Option Blk) → Prop
def ctxS : List Spe → FuncId → Option (Nat → St → List AV → AV → List (Option Blk) → Prop)
  | [] => fun _ => none
  | e :: es => fun f => if f = e.f then some e.R else ctxS es f
def ctx (es : List Ent) (ss : List Spe := []) : Ctx := ⟨ctxF es, ctxS ss, fun _ => false⟩
/-- Of functions that make and turn nothing. -/
def ctxQ (es : List Ent) : Ctx := ⟨ctxF es, fun _ => none, fun _ => true⟩
structure Fsp (P : Program) (e : Spe) : Prop where
  con : ConX P e.f e.R
  ent : Enters P e.f
def Fsps (P : Program) : List Spe → Prop
  | [] => True
  | e :: es => Fsp P e ∧ Fsps P es
theorem Fsps.at_ {P : Program} : ∀ {es : List Spe} (h : Fsps P es) {f : Nat} {R : Nat → St → List AV → AV → List (Option Blk) → Prop}, ctxS es f = some R → ConX P f R ∧ Enters P f
  | [], h, f, R, e => by cases e
  | x :: es, h, f, R, e => by
    simp only [ctxS] at e
    split at e
    · rename_i e1; subst e1
      injection e with e; subst e
      exact ⟨h.1.con, h.1.ent⟩
    · exact h.2.at_ e
structure Fk (P : Program) (e : Ent) : Prop where
  con : Con P e.leak e.f e.R false
  ent : Enters P e.f
def Fks (P : Program) : List Ent → Prop
  | [] => True
  | e :: es => Fk P e ∧ Fks P es
theorem Fks.at_ {P : Program} : ∀ {es : List Ent} (h : Fks P es) {f : Nat} {l : Bool} {R : List AV → AV → Prop}, ctxF es f = some (l, R) → Con P l f R false ∧ Enters P f
  | [], h, f, l, R, e => by cases e
  | x :: es, h, f, l, R, e => by
    simp only [ctxF] at e
    split at e
    · rename_i e1; subst e1
      injection e with e; injection e with e1 e2; subst e1; subst e2
      exact ⟨h.1.con, h.1.ent⟩
    · exact h.2.at_ e
theorem fk_of {P : Program} {es : List Ent} {ss : List Spe} (hes : Fks P es) (hss : Fsps P ss) (hmix : P.follows .mixedOrders = true) {f : Nat} {fn : Func} {A : Anno} {ac : AC} {rs : List RV} {leak : Bool} {R : List AV → AV → Prop}
    (hf : P.funcs[f]? = some fn) (hn : (fn.name == "runtime.NumGoroutine") = false) (hc : fn.body.bind (compile P A) = some ac) (hrs : rvsOf P fn.results.toList = some rs)
    (h : ∀ args r, R args r → Run (ctx es ss) ac rs fn.ntmps A.ns args r ∧ (leak = false → Fr r)) : Fk P ⟨f, leak, R⟩ := by
  cases hb : fn.body with
  | none => rw [hb] at hc; cases hc
  | some code =>
    rw [hb] at hc
    exact ⟨con_of hmix ⟨fun f l R e => (hes.at_ e).1, fun f R e => ⟨(hss.at_ e).1, rfl, (hss.at_ e).2⟩⟩ (fun f e => by
      cases h2 : ctxF es f with
      | none => have : (ctxF es f).isSome = true := e; rw [h2] at this; cases this
      | some p => obtain ⟨l, R⟩ := p; exact (hes.at_ h2).2) hf hb hc hrs (fun e => by cases e) h, enters_of hf hn hb⟩
/-- The same of functions that make and turn nothing. -/
structure Fq (P : Program) (e : Ent) : Prop where
  con : Con P e.leak e.f e.R true
  ent : Enters P e.f
def Fqs (P : Program) : List Ent → Prop
  | [] => True
  | e :: es => Fq P e ∧ Fqs P es
theorem Fqs.at_ {P : Program} : ∀ {es : List Ent} (h : Fqs P es) {f : Nat} {l : Bool} {R : List AV → AV → Prop}, ctxF es f = some (l, R) → Con P l f R true ∧ Enters P f
  | [], h, f, l, R, e => by cases e
  | x :: es, h, f, l, R, e => by
    simp only [ctxF] at e
    split at e
    · rename_i e1; subst e1
      injection e with e; injection e with e1 e2; subst e1; subst e2
      exact ⟨h.1.con, h.1.ent⟩
    · exact h.2.at_ e
theorem Fq.fk {P : Program} {e : Ent} (h : Fq P e) : Fk P e := ⟨fun args r hR X w vals hX hC => (h.con args r hR X w vals hX hC).mono fun e' w' ⟨v, Y, a, b, c, d, _⟩ => ⟨v, Y, a, b, c, d, fun e => by cases e⟩, h.ent⟩
theorem fq_of {P : Program} {es : List Ent} (hes : Fqs P es) (hmix : P.follows .mixedOrders = true) {f : Nat} {fn : Func} {A : Anno} {ac : AC} {rs : List RV} {leak : Bool} {R : List AV → AV → Prop}
    (hf : P.funcs[f]? = some fn) (hn : (fn.name == "runtime.NumGoroutine") = false) (hc : fn.body.bind (compile P A) = some ac) (hrs : rvsOf P fn.results.toList = some rs) (hq : quietX (ctxQ es) ac = true)
    (h : ∀ args r, R args r → Run (ctxQ es) ac rs fn.ntmps A.ns args r ∧ (leak = false → Fr r)) : Fq P ⟨f, leak, R⟩ := by
  cases hb : fn.body with
  | none => rw [hb] at hc; cases hc
  | some code =>
    rw [hb] at hc
    exact ⟨con_of hmix ⟨fun f l R e => (hes.at_ e).1, fun f R e => by cases e⟩ (fun f e => by
      cases h2 : ctxF es f with
      | none => have : (ctxF es f).isSome = true := e; rw [h2] at this; cases this
      | some p => obtain ⟨l, R⟩ := p; exact (hes.at_ h2).2) hf hb hc hrs (fun _ => hq) h, enters_of hf hn hb⟩
/-- What a function's end is. -/
def Ends (rs : List RV) (r : AV) (e : Exit) (st : St) : Prop := (e = .ret ∨ e = .normal) ∧ ∃ xs, st.rvs rs = some xs ∧ Cv st true true (resAV xs) r
theorem Run.of {Γ : Ctx} {ac ac' : AC} {rs : List RV} {n ns : Nat} {args : List AV} {r : AV} (e : ac = ac') (hl : args.length ≤ n) (h : X Γ ac' ⟨mkT n (enum 0 args), List.replicate ns none, 0⟩ [] (Ends rs r)) : Run Γ ac rs n ns args r := by
  obtain ⟨e, st', h1, h2, xs, h3, h4⟩ := W.top e h
  exact ⟨e, st', xs, by rw [st0_mk hl]; exact h1, h2, h3, h4⟩
theorem rvs_nil {st : St} : st.rvs [] = some [] := rfl
theorem rvs_tm {n g t : Nat} {l : List (Nat × AV)} {M : List (Option Blk)} {rs : List RV} (h : t < n) : St.rvs ⟨mkT n l, M, g⟩ (.tm t :: rs) = (St.rvs ⟨mkT n l, M, g⟩ rs).map (lk t l :: ·) := by
  have := ev_r (M := M) (g := g) (l := l) h
  simp only [St.ev] at this
  simp only [St.rvs, St.rv, this]
  cases St.rvs ⟨mkT n l, M, g⟩ rs <;> rfl
theorem ends_1 {n g t : Nat} {l : List (Nat × AV)} {M : List (Option Blk)} {r : AV} (h : t < n) (hc : Cv ⟨mkT n l, M, g⟩ true true (lk t l) r) : Ends [.tm t] r .ret ⟨mkT n l, M, g⟩ :=
  ⟨.inl rfl, [lk t l], by rw [rvs_tm h, rvs_nil]; rfl, hc⟩
theorem ends_2 {n g t u : Nat} {l : List (Nat × AV)} {M : List (Option Blk)} {x y : AV} (h : t < n) (h' : u < n) (hc : Cv ⟨mkT n l, M, g⟩ true true (lk t l) x) (hc' : Cv ⟨mkT n l, M, g⟩ true true (lk u l) y) : Ends [.tm t, .tm u] (.tup [x, y]) .ret ⟨mkT n l, M, g⟩ := by
  refine ⟨.inl rfl, [lk t l, lk u l], by rw [rvs_tm h, rvs_tm h', rvs_nil]; rfl, .tup rfl fun j a b ha hb => ?_⟩
  match j with
  | 0 => simp at ha hb; subst ha; subst hb; exact hc
  | 1 => simp at ha hb; subst ha; subst hb; exact hc'
  | j + 2 => simp at ha
theorem ends_3 {n g t u v : Nat} {l : List (Nat × AV)} {M : List (Option Blk)} {x y z : AV} (h : t < n) (h' : u < n) (h2 : v < n) (hc : Cv ⟨mkT n l, M, g⟩ true true (lk t l) x) (hc' : Cv ⟨mkT n l, M, g⟩ true true (lk u l) y) (hc2 : Cv ⟨mkT n l, M, g⟩ true true (lk v l) z) : Ends [.tm t, .tm u, .tm v] (.tup [x, y, z]) .ret ⟨mkT n l, M, g⟩ := by
  refine ⟨.inl rfl, [lk t l, lk u l, lk v l], by rw [rvs_tm h, rvs_tm h', rvs_tm h2, rvs_nil]; rfl, .tup rfl fun j a b ha hb => ?_⟩
  match j with
  | 0 => simp at ha hb; subst ha; subst hb; exact hc
  | 1 => simp at ha hb; subst ha; subst hb; exact hc'
  | 2 => simp at ha hb; subst ha; subst hb; exact hc2
  | j + 3 => simp at ha

theorem ends_v {n g t : Nat} {l : List (Nat × AV)} {M : List (Option Blk)} {v v' : Value} (h : t < n) (hl : lk t l = .lit v') (e : v' = v) : Ends [.tm t] (.lit v) .ret ⟨mkT n l, M, g⟩ := ends_1 h (by rw [hl, e]; exact .lit _)
theorem ends_b {n g t : Nat} {l : List (Nat × AV)} {M : List (Option Blk)} {b b' : Bool} (h : t < n) (hl : lk t l = eB b') (e : b' = b) : Ends [.tm t] (eB b) .ret ⟨mkT n l, M, g⟩ := ends_v h hl (by rw [e])
theorem ends_n {n g t : Nat} {l : List (Nat × AV)} {M : List (Option Blk)} {k : IntKind} {b b' : Int} (h : t < n) (hl : lk t l = eN k b') (e : b' = b) : Ends [.tm t] (eN k b) .ret ⟨mkT n l, M, g⟩ := ends_v h hl (by rw [e])
section
variable {T : List AV} {M : List (Option Blk)} {q k n : Nat} {gg : Gen} {e : TypeId} {cs : List AV} {a b c d : Option Blk}
theorem bk0 : St.blk ⟨T, some (.row gg e k n cs) :: M, q⟩ 0 gg = some (.row gg e k n cs) := by simp [St.blk, Blk.g]
theorem bk1 : St.blk ⟨T, a :: some (.row gg e k n cs) :: M, q⟩ 1 gg = some (.row gg e k n cs) := by simp [St.blk, Blk.g]
theorem bk2 : St.blk ⟨T, a :: b :: some (.row gg e k n cs) :: M, q⟩ 2 gg = some (.row gg e k n cs) := by simp [St.blk, Blk.g]
theorem bk3 : St.blk ⟨T, a :: b :: c :: some (.row gg e k n cs) :: M, q⟩ 3 gg = some (.row gg e k n cs) := by simp [St.blk, Blk.g]
theorem bk4 : St.blk ⟨T, a :: b :: c :: d :: some (.row gg e k n cs) :: M, q⟩ 4 gg = some (.row gg e k n cs) := by simp [St.blk, Blk.g]
end
/-- Cell by cell. -/
def Cc (st : St) (O L : Bool) (xs ys : List AV) : Prop := ys.length = xs.length ∧ ∀ (j : Nat) (x y : AV), xs[j]? = some x → ys[j]? = some y → Cv st O L x y
section
variable {st : St} {O L : Bool} {α : Type} {f f' : α → List AV} {k : Nat} {l : List α}
theorem Cc.nil : Cc st O L [] [] := ⟨rfl, fun j x y h => by simp at h⟩
theorem Cc.cons {x y : AV} {xs ys : List AV} (h : Cv st O L x y) (t : Cc st O L xs ys) : Cc st O L (x :: xs) (y :: ys) := by
  refine ⟨by simp [t.1], fun j a b ha hb => ?_⟩
  cases j with
  | zero => simp at ha hb; subst ha; subst hb; exact h
  | succ j => exact t.2 j a b (by simpa using ha) (by simpa using hb)
theorem Cc.append {x y xs ys : List AV} (h : Cc st O L x y) (t : Cc st O L xs ys) : Cc st O L (x ++ xs) (y ++ ys) := by
  refine ⟨by simp [h.1, t.1], fun j a b ha hb => ?_⟩
  by_cases hj : j < x.length
  · rw [List.getElem?_append_left hj] at ha
    rw [List.getElem?_append_left (by rw [h.1]; exact hj)] at hb
    exact h.2 j a b ha hb
  · rw [List.getElem?_append_right (by omega)] at ha
    rw [List.getElem?_append_right (by rw [h.1]; omega), h.1] at hb
    exact t.2 _ a b ha hb
theorem Cc.flat (h : ∀ x ∈ l, Cc st O L (f x) (f' x)) : Cc st O L (l.flatMap f) (l.flatMap f') := by
  induction l with
  | nil => exact Cc.nil
  | cons x l ih =>
    simp only [List.flatMap_cons]
    exact (h x (List.mem_cons_self ..)).append (ih fun y hy => h y (List.mem_cons_of_mem _ hy))
theorem Cc.lit (vs : List Value) : Cc st O L (vs.map .lit) (vs.map .lit) := by
  induction vs with
  | nil => exact Cc.nil
  | cons v vs ih => exact Cc.cons (.lit v) ih
theorem cv_L {lab lab' : Bool} (hl : lab' = true → L = true ∧ lab = true) (h : ∀ x ∈ l, Cc st O L (f x) (f' x)) : Cv st O L (eL lab k f l) (eL lab' k f' l) := by
  have := Cc.flat h
  exact .frz hl this.1 this.2
theorem cv_own {id : Nat} {g g' : Gen} {e : TypeId} {lab : Bool} (hO : O = true) (hb : st.blk id g = some (eR g' e k f l)) (hl : lab = true → L = true) (h : ∀ x ∈ l, Cc st O L (f x) (f' x)) : Cv st O L (.own id g) (eL lab k f' l) := by
  have := Cc.flat h
  exact .own hO hb hl this.1 this.2
/-- A row of n elements. -/
abbrev eM {α : Type} (g : Gen) (e : TypeId) (k n : Nat) (f : α → List AV) (l : List α) : Blk := .row g e k n (l.flatMap f)
theorem cv_agg {xs ys : List AV} (h : Cc st O L xs ys) : Cv st O L (.agg xs) (.agg ys) := .agg h.1 h.2
theorem cv_tup {xs ys : List AV} (h : Cc st O L xs ys) : Cv st O L (.tup xs) (.tup ys) := .tup h.1 h.2
/-- Lists of ints, of lists of ints, of Bools. -/
abbrev LI (lab : Bool) (l : List Int) : AV := eL lab 1 (c1 (eN .i64)) l
abbrev LLI (lab lab' : Bool) (l : List (List Int)) : AV := eL lab 1 (c1 (LI lab')) l
abbrev LB (lab : Bool) (l : List Bool) : AV := eL lab 1 (c1 eB) l
abbrev LS (lab : Bool) (l : List ByteArray) : AV := eL lab 1 (c1 eS) l
theorem cv_LI {lab lab' : Bool} {l : List Int} (hl : lab' = true → L = true ∧ lab = true) : Cv st O L (LI lab l) (LI lab' l) := cv_L hl fun x _ => Cc.cons (.lit _) .nil
theorem cv_LB {lab lab' : Bool} {l : List Bool} (hl : lab' = true → L = true ∧ lab = true) : Cv st O L (LB lab l) (LB lab' l) := cv_L hl fun x _ => Cc.cons (.lit _) .nil
theorem cv_LLI {lab lab' lab2 lab2' : Bool} {l : List (List Int)} (hl : lab' = true → L = true ∧ lab = true) (hl2 : lab2' = true → L = true ∧ lab2 = true) : Cv st O L (LLI lab lab2 l) (LLI lab' lab2' l) := cv_L hl fun x _ => Cc.cons (cv_LI hl2) .nil
theorem cv_oI {id : Nat} {g g' : Gen} {e : TypeId} {lab : Bool} {l : List Int} (hb : st.blk id g = some (eR g' e 1 (c1 (eN .i64)) l)) (hl : lab = true → L = true) : Cv st true L (.own id g) (LI lab l) := cv_own rfl hb hl fun x _ => Cc.cons (.lit _) .nil
theorem cv_oB {id : Nat} {g g' : Gen} {e : TypeId} {lab : Bool} {l : List Bool} (hb : st.blk id g = some (eR g' e 1 (c1 eB) l)) (hl : lab = true → L = true) : Cv st true L (.own id g) (LB lab l) := cv_own rfl hb hl fun x _ => Cc.cons (.lit _) .nil
theorem cv_oLI {id : Nat} {g g' : Gen} {e : TypeId} {lab lab2 lab2' : Bool} {l : List (List Int)} (hb : st.blk id g = some (eR g' e 1 (c1 (LI lab2)) l)) (hl : lab = true → L = true) (hl2 : lab2' = true → L = true ∧ lab2 = true) : Cv st true L (.own id g) (LLI lab lab2' l) := cv_own rfl hb hl fun x _ => Cc.cons (cv_LI hl2) .nil
theorem cv_mI {id n : Nat} {g g' : Gen} {e : TypeId} {lab : Bool} {l : List Int} (hb : st.blk id g = some (eM g' e 1 n (c1 (eN .i64)) l)) (hn : n = l.length) (hl : lab = true → L = true) : Cv st true L (.own id g) (LI lab l) := by subst hn; exact cv_oI hb hl
theorem cv_mB {id n : Nat} {g g' : Gen} {e : TypeId} {lab : Bool} {l : List Bool} (hb : st.blk id g = some (eM g' e 1 n (c1 eB) l)) (hn : n = l.length) (hl : lab = true → L = true) : Cv st true L (.own id g) (LB lab l) := by subst hn; exact cv_oB hb hl
theorem cv_mLI {id n : Nat} {g g' : Gen} {e : TypeId} {lab lab2 lab2' : Bool} {l : List (List Int)} (hb : st.blk id g = some (eM g' e 1 n (c1 (LI lab2)) l)) (hn : n = l.length) (hl : lab = true → L = true) (hl2 : lab2' = true → L = true ∧ lab2 = true) : Cv st true L (.own id g) (LLI lab lab2' l) := by subst hn; exact cv_oLI hb hl hl2
end
-- fresh memory
theorem fr_L {α : Type} {f : α → List AV} {k : Nat} {l : List α} (h : ∀ x ∈ l, ∀ y ∈ f x, Fr y) : Fr (eL true k f l) := .frz fun j y hy => by
  have := List.mem_of_getElem? hy
  rw [List.mem_flatMap] at this
  obtain ⟨x, hx, hy⟩ := this
  exact h x hx y hy
theorem fr_LI (l : List Int) : Fr (LI true l) := fr_L fun x _ y hy => by simp only [c1, List.mem_singleton] at hy; subst hy; exact .lit _
theorem fr_LB (l : List Bool) : Fr (LB true l) := fr_L fun x _ y hy => by simp only [c1, List.mem_singleton] at hy; subst hy; exact .lit _
theorem fr_LLI (l : List (List Int)) : Fr (LLI true true l) := fr_L fun x _ y hy => by simp only [c1, List.mem_singleton] at hy; subst hy; exact fr_LI _
theorem fr_2 {x y : AV} (hx : Fr x) (hy : Fr y) : Fr (.tup [x, y]) := .tup fun j z hz => by
  match j with
  | 0 => simp at hz; subst hz; exact hx
  | 1 => simp at hz; subst hz; exact hy
  | j + 2 => simp at hz
theorem fr_3 {x y z : AV} (hx : Fr x) (hy : Fr y) (hw : Fr z) : Fr (.tup [x, y, z]) := .tup fun j u hz => by
  match j with
  | 0 => simp at hz; subst hz; exact hx
  | 1 => simp at hz; subst hz; exact hy
  | 2 => simp at hz; subst hz; exact hw
  | j + 3 => simp at hz
theorem wr_in {n : Int} (h : -9223372036854775808 ≤ n) (h' : n ≤ 9223372036854775807) : IntKind.i64.wrap n = n := IntWalk.i64_in n ⟨h, h'⟩
end Go.Proofs.YtbpajecjaoefaaaGreat.V

/- The abstract machine: what a state may forget, and rows that are given up for writing. -/
namespace Go.Proofs.YtbpajecjaoefaaaGreat.V
open Go Go.RowKit

/-- A row of the call's own, as it is read from now on. -/
def fz (id : Nat) (g : Gen) (k n : Nat) (cs : List AV) : AV → AV
  | .own i g' => if i = id ∧ g' = g then .frz true k n cs else .own i g'
  | .sub i g' k' off len => if i = id ∧ g' = g ∧ k' = k ∧ off + len ≤ n then .frz true k len ((cs.drop (off * k)).take (len * k)) else .sub i g' k' off len
  | x => x
def Blk.upd (f : AV → AV) : Blk → Blk
  | .row g e k n cs => .row g e k n (cs.map f)
  | .box g t cs => .box g t (cs.map f)
  | .mp g kt vt es => .mp g kt vt (es.map fun p => (p.1, f p.2))
def updM (f : AV → AV) (M : List (Option Blk)) : List (Option Blk) := M.map fun o => o.map (Blk.upd f)
theorem Blk.upd_g (f : AV → AV) (B : Blk) : (B.upd f).g = B.g := by cases B <;> rfl
theorem updM_at {f : AV → AV} {M : List (Option Blk)} {id : Nat} {B : Blk} (h : (updM f M)[id]? = some (some B)) : ∃ B0, M[id]? = some (some B0) ∧ B = B0.upd f := by
  unfold updM at h
  rw [List.getElem?_map] at h
  cases e : M[id]? with
  | none => rw [e] at h; cases h
  | some o =>
    rw [e] at h
    cases o with
    | none => cases h
    | some B0 => injection h with h; injection h with h; exact ⟨B0, rfl, h.symm⟩
theorem Cs.upd {X X' : Claims} {s0 : Nat} {H : Heads} {f : AV → AV} (hf : ∀ x v, C X s0 H x v → C X' s0 H (f x) v) {cs : List AV} {vs : List Value} (h : Cs X s0 H cs vs) : Cs X' s0 H (cs.map f) vs := by
  refine ⟨by rw [List.length_map]; exact h.len, fun j x v hx hv => ?_⟩
  rw [List.getElem?_map] at hx
  cases e : cs[j]? with
  | none => rw [e] at hx; cases hx
  | some y => rw [e] at hx; injection hx with hx; subst hx; exact hf _ _ (h.at_ j y v e hv)
theorem BlkOK.upd {X X' : Claims} {s0 : Nat} {S : Nat → Nat → Prop} {H : Heads} {w : World} {id : Nat} {f : AV → AV} (hf : ∀ x v, C X s0 H x v → C X' s0 H (f x) v) {B : Blk} (h : BlkOK X s0 S H w id B)
    (hX : ∀ v b, H id B.g = some v → hblk v = some b → ∀ o, X' b o = none) : BlkOK X' s0 S H w id (B.upd f) := by
  cases B with
  | row g e k n cs =>
    obtain ⟨v, xs, h1, h2, h3, h4, h5⟩ := h
    exact ⟨v, xs, h1, h2, h3.upd hf, h4, fun b hb => ⟨(h5 b hb).1, hX v b h1 hb⟩⟩
  | box g t cs =>
    obtain ⟨b, vals, h1, h2, h3, h4, h5⟩ := h
    exact ⟨b, vals, h1, h2, h3.upd hf, h4, hX _ b h1 rfl⟩
  | mp g kt vt es =>
    obtain ⟨b, ens, clock, h1, h2, h3, h4, h5, h6⟩ := h
    refine ⟨b, ens, clock, h1, h2, ?_, ?_, h5, hX _ b h1 rfl⟩
    · rw [h3]; simp
    · have := h4.upd hf
      rw [List.map_map] at this ⊢
      exact this

/-- A state under a map of its values that says no more than they do. -/
theorem Wk.map {st : St} (f : AV → AV) (hf : ∀ {X : Claims} {s0 : Nat} {H : Heads} {x : AV} {v : Value}, C X s0 H x v → C X s0 H (f x) v) : Wk st ⟨st.tm.map f, updM f st.M, st.g⟩ := by
  intro s0 S w0 D X H a w hS h
  refine ⟨X, H, { h with sz := by rw [List.length_map]; exact h.sz, tm := ?_, blks := ?_, inj := ?_ }⟩
  · intro j x hx
    rw [List.getElem?_map] at hx
    cases e : st.tm[j]? with
    | none => rw [e] at hx; cases hx
    | some y => rw [e] at hx; injection hx with hx; subst hx; exact hf (h.tm j y e)
  · intro id B hB
    obtain ⟨B0, h1, rfl⟩ := updM_at hB
    refine (h.blks id B0 h1).upd (fun x v => hf) fun v b hv hb => ?_
    obtain ⟨u, hu, hub⟩ := (h.blks id B0 h1).head
    obtain rfl : u = v := by rw [hu] at hv; injection hv
    exact (hub b hb).2.2
  · intro i j B B' v v' b hi hj hv hv' hb hb'
    obtain ⟨B0, h1, rfl⟩ := updM_at hi
    obtain ⟨B1, h2, rfl⟩ := updM_at hj
    rw [Blk.upd_g] at hv hv'
    exact h.inj i j B0 B1 v v' b h1 h2 hv hv' hb hb'

/-- A row of the call's own is given up for writing. -/
theorem Wk.frz {st : St} {id : Nat} {g : Gen} {e : TypeId} {k n : Nat} {cs : List AV} (hM : st.M[id]? = some (some (.row g e k n cs))) : Wk st ⟨st.tm.map (fz id g k n cs), (updM (fz id g k n cs) st.M).set id none, st.g⟩ := by
  intro s0 S w0 D X H a w hS h
  obtain ⟨v, xs, h1, h2, h3, h4, h5⟩ := h.blks id _ hM
  have hX' : ∃ X' : Claims, X.le X' ∧ (∀ b o u, X' b o = some u → X b o = some u ∨ hblk v = some b ∧ xs[o]? = some u) ∧ (∀ b o u, hblk v = some b → xs[o]? = some u → X' b o = some u) ∧ ∀ b o, hblk v ≠ some b → X' b o = X b o := by
    refine ⟨fun b o => match X b o with | some u => some u | none => if hblk v = some b then xs[o]? else none, ?_, ?_, ?_, ?_⟩
    · intro b o u hu; simp only [hu]
    · intro b o u hu
      simp only at hu
      split at hu
      · rename_i u' e; injection hu with hu; subst hu; exact .inl e
      · split at hu
        · rename_i hb; exact .inr ⟨hb, hu⟩
        · cases hu
    · intro b o u hb hu
      have := (h5 b hb).2 o
      simp only [this, hb, if_true, hu]
    · intro b o hb
      simp only
      cases X b o with
      | none => simp [hb]
      | some u => rfl
  obtain ⟨X', hle, hX1, hX2, hX3⟩ := hX'
  have hs0 : ∀ b, hblk v = some b → s0 ≤ b := fun b hb => (h5 b hb).1.resolve_right (hS id b)
  have hlen : xs.length = n * k := h2.1
  have hcl : cs.length = n * k := by rw [← h3.len]; exact hlen
  have hf : ∀ x u, C X s0 H x u → C X' s0 H (fz id g k n cs x) u := by
    intro x u hx
    have mono : ∀ {x u}, C X s0 H x u → C X' s0 H x u := fun h => h.mono hle (Nat.le_refl _) (Heads.le.refl H)
    cases x with
    | own i g' =>
      simp only [fz]
      split
      · rename_i e1; obtain ⟨rfl, rfl⟩ := e1
        cases hx with
        | own b1 b2 =>
          obtain rfl : v = u := by rw [h1] at b1; injection b1
          rcases ownsRow_head h2 with ⟨rfl, rfl⟩ | ⟨b, cap, rfl, hcp⟩
          · have : cs = [] := List.eq_nil_of_length_eq_zero (by rw [hcl]; simp)
            subst this; exact .frz0
          · by_cases hn : n = 0
            · subst hn
              have : cs = [] := List.eq_nil_of_length_eq_zero (by rw [hcl]; simp)
              subst this; exact .frz0
            · refine .frz (vs := xs) (fun _ => hs0 b rfl) (by omega) hcl hcp h3.len (fun j u hj => by rw [Nat.zero_add]; exact hX2 b j u rfl hj) fun j x u hx hu => mono (h3.at_ j x u hx hu)
      · exact mono hx
    | sub i g' k' off len =>
      simp only [fz]
      split
      · rename_i e1; obtain ⟨rfl, rfl, rfl, hle'⟩ := e1
        cases hx with
        | sub b1 b2 b3 b4 =>
          rename_i b n2 cap
          rw [h1] at b1; injection b1 with b1; subst b1
          have hd := (h3.drop (off * k')).take (len * k')
          refine .frz (vs := (xs.drop (off * k')).take (len * k')) (fun _ => hs0 b rfl) b2 ?_ (by omega) hd.len (fun j u hj => ?_) fun j x u hx hu => mono (hd.at_ j x u hx hu)
          · rw [← hd.len, List.length_take, List.length_drop, hlen, Nat.min_eq_left]
            rw [← Nat.sub_mul]; exact Nat.mul_le_mul_right _ (by omega)
          · rw [List.getElem?_take] at hj
            split at hj
            · rw [List.getElem?_drop] at hj
              exact hX2 b _ u rfl hj
            · cases hj
      · exact mono hx
    | _ => simp only [fz]; exact mono hx
  refine ⟨X', H, { h with sz := by rw [List.length_map]; exact h.sz, tm := ?_, claims := ?_, blks := ?_, inj := ?_, x0 := ?_ }⟩
  · intro j x hx
    rw [List.getElem?_map] at hx
    cases e1 : st.tm[j]? with
    | none => rw [e1] at hx; cases hx
    | some y => rw [e1] at hx; injection hx with hx; subst hx; exact hf _ _ (h.tm j y e1)
  · intro b o u hu
    rcases hX1 b o u hu with h6 | ⟨hb, h6⟩
    · exact h.claims b o u h6
    · rcases ownsRow_head h2 with ⟨rfl, _⟩ | ⟨b', cap, rfl, hcp⟩
      · cases hb
      · injection hb with hb; subst hb
        have hlt := (List.getElem?_eq_some_iff.1 h6).1
        have := h2.cellAt o (by omega)
        rw [this]; exact h6
  · intro j B hB
    rw [List.getElem?_set] at hB
    split at hB
    · split at hB <;> cases hB
    · rename_i hne
      obtain ⟨B0, e1, rfl⟩ := updM_at hB
      refine (h.blks j B0 e1).upd hf fun v' b hv' hb o => ?_
      obtain ⟨u, hu, hub⟩ := (h.blks j B0 e1).head
      obtain rfl : u = v' := by rw [hu] at hv'; injection hv'
      rw [hX3 b o ?_]
      · exact (hub b hb).2.2 o
      · intro hb'
        exact hne (h.inj id j _ B0 v u b hM e1 h1 hu hb' hb)
  · intro i j B B' v1 v' b hi hj hv hv' hb hb'
    rw [List.getElem?_set] at hi hj
    split at hi
    · split at hi <;> cases hi
    · split at hj
      · split at hj <;> cases hj
      · obtain ⟨B0, e1, rfl⟩ := updM_at hi
        obtain ⟨B1, e2, rfl⟩ := updM_at hj
        rw [Blk.upd_g] at hv hv'
        exact h.inj i j B0 B1 v1 v' b e1 e2 hv hv' hb hb'
  · intro b o u hu hb
    rcases hX1 b o u hu with h6 | ⟨hb', h6⟩
    · exact h.x0 b o u h6 hb
    · have := hs0 b hb'; omega
/-- A label falls; a nil becomes an empty row. -/
def aged (k : Nat) : AV → AV
  | .frz _ k n cs => .frz false k n cs
  | .lit (.slice none 0 0) => .frz true k 0 []
  | x => x
theorem aged_ok {k : Nat} {X : Claims} {s0 : Nat} {H : Heads} {x : AV} {v : Value} (h : C X s0 H x v) : C X s0 H (aged k x) v := by
  unfold aged
  split
  · cases h with
    | frz0 => exact .frz0
    | frz hl h0 hn hc hv hx hC => exact .frz (fun e => by cases e) h0 hn hc hv hx hC
  · cases h; exact .frz0
  · exact h

/-- What says less than a value. -/
def Cw (x y : AV) : Prop := ∀ {X : Claims} {s0 : Nat} {H : Heads} {v : Value}, C X s0 H x v → C X s0 H y v
def Cws (xs ys : List AV) : Prop := ys.length = xs.length ∧ ∀ (j : Nat) (x y : AV), xs[j]? = some x → ys[j]? = some y → Cw x y
theorem Cw.refl (x : AV) : Cw x x := fun h => h
theorem Cw.junk (x : AV) : Cw x .junk := fun _ => .junk _
theorem Cws.refl (xs : List AV) : Cws xs xs := ⟨rfl, fun j x y hx hy => by rw [hx] at hy; injection hy with hy; subst hy; exact Cw.refl x⟩
theorem Cws.nil : Cws [] [] := Cws.refl []
theorem Cws.cons {x y : AV} {xs ys : List AV} (h : Cw x y) (t : Cws xs ys) : Cws (x :: xs) (y :: ys) := by
  refine ⟨by simp [t.1], fun j a b ha hb => ?_⟩
  cases j with
  | zero => simp at ha hb; subst ha; subst hb; exact h
  | succ j => exact t.2 j a b (by simpa using ha) (by simpa using hb)
theorem Cws.append {x y xs ys : List AV} (h : Cws x y) (t : Cws xs ys) : Cws (x ++ xs) (y ++ ys) := by
  refine ⟨by simp [h.1, t.1], fun j a b ha hb => ?_⟩
  by_cases hj : j < x.length
  · rw [List.getElem?_append_left hj] at ha
    rw [List.getElem?_append_left (by rw [h.1]; exact hj)] at hb
    exact h.2 j a b ha hb
  · rw [List.getElem?_append_right (by omega)] at ha
    rw [List.getElem?_append_right (by rw [h.1]; omega), h.1] at hb
    exact t.2 _ a b ha hb
theorem Cws.flat {α : Type} {f f' : α → List AV} {l : List α} (h : ∀ x ∈ l, Cws (f x) (f' x)) : Cws (l.flatMap f) (l.flatMap f') := by
  induction l with
  | nil => exact Cws.nil
  | cons x l ih =>
    simp only [List.flatMap_cons]
    exact (h x (List.mem_cons_self ..)).append (ih fun y hy => h y (List.mem_cons_of_mem _ hy))
theorem Cw.frz {lab lab' : Bool} {k n : Nat} {xs ys : List AV} (hl : lab' = true → lab = true) (h : Cws xs ys) : Cw (.frz lab k n xs) (.frz lab' k n ys) := by
  intro X s0 H v hx
  cases hx with
  | frz0 =>
    have : ys = [] := List.eq_nil_of_length_eq_zero (by rw [h.1]; rfl)
    subst this; exact .frz0
  | frz hl' h0 hn hc hv hx hC =>
    refine .frz (fun e => hl' (hl e)) h0 (by rw [h.1]; exact hn) hc (by rw [h.1]; exact hv) hx fun j y u hy hu => ?_
    have hlt : j < xs.length := by rw [← h.1]; exact (List.getElem?_eq_some_iff.1 hy).1
    exact h.2 j _ y (List.getElem?_eq_getElem hlt) hy (hC j _ u (List.getElem?_eq_getElem hlt) hu)
theorem Cw.L {α : Type} {f f' : α → List AV} {l : List α} {k : Nat} {lab lab' : Bool} (hl : lab' = true → lab = true) (h : ∀ x ∈ l, Cws (f x) (f' x)) : Cw (eL lab k f l) (eL lab' k f' l) := Cw.frz hl (Cws.flat h)
theorem Cw.nil {lab : Bool} {k : Nat} : Cw (.lit (.slice none 0 0)) (.frz lab k 0 []) := fun h => by cases h; exact .frz0
theorem Cw.empty {lab lab' : Bool} {k k' : Nat} : Cw (.frz lab k 0 []) (.frz lab' k' 0 []) := fun h => by
  cases h with
  | frz0 => exact .frz0
  | frz _ h0 => omega
theorem Cw.agg {xs ys : List AV} (h : Cws xs ys) : Cw (.agg xs) (.agg ys) := by
  intro X s0 H v hx
  cases hx with
  | agg hv hC =>
    refine .agg (by rw [h.1]; exact hv) fun j y u hy hu => ?_
    have hlt : j < xs.length := by rw [← h.1]; exact (List.getElem?_eq_some_iff.1 hy).1
    exact h.2 j _ y (List.getElem?_eq_getElem hlt) hy (hC j _ u (List.getElem?_eq_getElem hlt) hu)
theorem Cs.cw {X : Claims} {s0 : Nat} {H : Heads} {xs ys : List AV} {vs : List Value} (h : Cs X s0 H xs vs) (hc : Cws xs ys) : Cs X s0 H ys vs := by
  refine ⟨by rw [hc.1]; exact h.len, fun j y u hy hu => ?_⟩
  have hlt : j < xs.length := by rw [← hc.1]; exact (List.getElem?_eq_some_iff.1 hy).1
  exact hc.2 j _ y (List.getElem?_eq_getElem hlt) hy (h.at_ j _ u (List.getElem?_eq_getElem hlt) hu)
/-- Places that say less. -/
theorem Wk.slots {n g : Nat} {l l' : List (Nat × AV)} {M : List (Option Blk)} (h : ∀ p ∈ l', Cw (lk p.1 l) p.2) : Wk ⟨mkT n l, M, g⟩ ⟨mkT n l', M, g⟩ := by
  intro s0 S w0 D X H a w hS hs
  refine ⟨X, H, { hs with sz := by have := hs.sz; simp only [mkT_length] at this ⊢; exact this, tm := ?_ }⟩
  intro j x hx
  obtain ⟨hj, rfl⟩ := mkT_at _ _ _ _ hx
  have h0 := hs.tm j (lk j l) (mkT_get hj l)
  have key : ∀ l2 : List (Nat × AV), (∀ p ∈ l2, Cw (lk p.1 l) p.2) → C X s0 H (lk j l2) (a.tmps.getD j undef) := by
    intro l2
    induction l2 with
    | nil => intro _; exact .junk _
    | cons p l2 ih =>
      intro hp
      simp only [lk]
      split
      · rename_i e; exact hp p (List.mem_cons_self ..) (by rw [← e]; exact h0)
      · exact ih fun q hq => hp q (List.mem_cons_of_mem _ hq)
  exact key l' h
/-- A row whose cells say less. -/
theorem Wk.row {st : St} {id : Nat} {g : Gen} {e : TypeId} {k n : Nat} {cs cs' : List AV} (hM : st.M[id]? = some (some (.row g e k n cs))) (h : Cws cs cs') : Wk st ⟨st.tm, st.M.set id (some (.row g e k n cs')), st.g⟩ := by
  intro s0 S w0 D X H a w hS hs
  have hlt : id < st.M.length := (List.getElem?_eq_some_iff.1 hM).1
  have key : ∀ (j : Nat) (B : Blk), (st.M.set id (some (.row g e k n cs')))[j]? = some (some B) → ∃ B0, st.M[j]? = some (some B0) ∧ B0.g = B.g ∧ BlkOK X s0 S H w j B := by
    intro j B hB
    rw [List.getElem?_set] at hB
    split at hB
    · rename_i e1; subst e1
      injection hB with hB; injection hB with hB; subst hB
      obtain ⟨v, xs, h1, h2, h3, h4, h5⟩ := hs.blks id _ hM
      exact ⟨_, hM, rfl, v, xs, h1, h2, h3.cw h, h4, h5⟩
    · exact ⟨B, hB, rfl, hs.blks j B hB⟩
  refine ⟨X, H, { hs with blks := fun j B hB => (key j B hB).choose_spec.2.2, inj := ?_ }⟩
  intro i j B B' v v' b hi hj hv hv' hb hb'
  obtain ⟨B0, h1, h2, _⟩ := key i B hi
  obtain ⟨B1, h3, h4, _⟩ := key j B' hj
  exact hs.inj i j B0 B1 v v' b h1 h3 (by rw [h2]; exact hv) (by rw [h4]; exact hv') hb hb'
-- reading a frozen state
theorem mkT_map {n : Nat} {l : List (Nat × AV)} {f : AV → AV} (hf : f .junk = .junk) : (mkT n l).map f = mkT n (l.map fun p => (p.1, f p.2)) := by
  unfold mkT
  rw [List.map_map]
  congr 1
  funext j
  simp only [Function.comp]
  induction l with
  | nil => exact hf
  | cons p l ih =>
    simp only [lk, List.map_cons]
    split
    · rfl
    · exact ih
section
variable {id i k k' n off len : Nat} {g g' : Gen} {cs xs : List AV} {x : AV} {v : Value} {lab : Bool}
theorem mkT_fz {N : Nat} {l : List (Nat × AV)} : (mkT N l).map (fz id g k n cs) = mkT N (l.map fun p => (p.1, fz id g k n cs p.2)) := mkT_map rfl
theorem fz_own : fz id g k n cs (.own i g') = if i = id ∧ g' = g then .frz true k n cs else .own i g' := rfl
theorem fz_lit : fz id g k n cs (.lit v) = .lit v := rfl
theorem fz_frz : fz id g k n cs (.frz lab k' i xs) = .frz lab k' i xs := rfl
theorem fz_agg : fz id g k n cs (.agg xs) = .agg xs := rfl
theorem fz_map : fz id g k n cs (.mapr i g') = .mapr i g' := rfl
theorem fz_ptr : fz id g k n cs (.ptr i g' off) = .ptr i g' off := rfl
theorem fz_junk : fz id g k n cs .junk = .junk := rfl
theorem updM_nil {f : AV → AV} : updM f [] = [] := rfl
theorem updM_none {f : AV → AV} {M : List (Option Blk)} : updM f (none :: M) = none :: updM f M := rfl
theorem updM_row {f : AV → AV} {M : List (Option Blk)} {e : TypeId} : updM f (some (.row g e k n cs) :: M) = some (.row g e k n (cs.map f)) :: updM f M := rfl
theorem updM_box {f : AV → AV} {M : List (Option Blk)} {e : TypeId} : updM f (some (.box g e cs) :: M) = some (.box g e (cs.map f)) :: updM f M := rfl
theorem updM_mp {f : AV → AV} {M : List (Option Blk)} {e e' : TypeId} {es : List (Value × AV)} : updM f (some (.mp g e e' es) :: M) = some (.mp g e e' (es.map fun p => (p.1, f p.2))) :: updM f M := rfl
theorem flat_fz {α : Type} {f : α → List AV} {l : List α} {h : AV → AV} (hf : ∀ x, (f x).map h = f x) : (l.flatMap f).map h = l.flatMap f := by
  induction l with
  | nil => rfl
  | cons x l ih => simp only [List.flatMap_cons, List.map_append, ih, hf]
theorem flat_fzi {kd : IntKind} {l : List Int} : (l.flatMap (c1 (eN kd))).map (fz id g k n cs) = l.flatMap (c1 (eN kd)) := flat_fz fun _ => rfl
theorem flat_fzb {l : List Bool} : (l.flatMap (c1 eB)).map (fz id g k n cs) = l.flatMap (c1 eB) := flat_fz fun _ => rfl
theorem flat_fzli {l : List (List Int)} : (l.flatMap (c1 (LI lab))).map (fz id g k n cs) = l.flatMap (c1 (LI lab)) := flat_fz fun _ => rfl
end
end Go.Proofs.YtbpajecjaoefaaaGreat.V
