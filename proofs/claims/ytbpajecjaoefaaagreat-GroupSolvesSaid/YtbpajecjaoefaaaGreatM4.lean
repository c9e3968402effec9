/- Texts of the machine V and of the proofs over it, one behind the other. -/
import Derived.Test.YtbpajecjaoefaaaGreatM3
set_option linter.unusedVariables false
set_option linter.unusedSimpArgs false
/- The subgroup that elements generate: the reference's walk. -/






namespace Go.Proofs.YtbpajecjaoefaaaGreat.V

open Go Go.RowKit Go.Proofs.Tryz

def R_SetO (args : List AV) (e : TypeId) (k n : Nat) (cs : List AV) : Prop := ∃ (l : List Int) (m : Nat), l.length < 2 ^ 40 ∧ m < 2 ^ 40 ∧ args = [LI false l, eN .i64 m] ∧ e = Tbool ∧ k = 1 ∧ n = m ∧ cs = (inSet l m).flatMap (c1 eB)
theorem fr_flatB (l : List Bool) : ∀ x ∈ l.flatMap (c1 eB), Fr x := by
  intro x hx
  rw [List.mem_flatMap] at hx
  obtain ⟨y, _, hx⟩ := hx
  simp only [c1, List.mem_singleton] at hx; subst hx; exact .lit _
theorem fo_Set : Fo prog ⟨F_ref03_Set, R_SetO⟩ := fo_of (es := []) (ss := []) trivial trivial mix_ (by kernel_rfl : prog.funcs[F_ref03_Set]? = some f65) (by kernel_rfl) C.ref03.Set.comp_ C.ref03.Set.rs_ <| by
  rintro _ _ _ n _ ⟨l, m, hl, hn, rfl, rfl, rfl, hnm, rfl⟩
  subst hnm
  show RunO (ctx [] []) C.ref03.Set.top C.ref03.Set.rs 28 1 _ _ _ _ _
  refine RunO.of C.ref03.Set.top.eq_1 (by simp) ?_
  simp only [↓cnd_t, ↓cnd_f, ↓cnf_t, ↓cnf_f, VS, astep, Nat.reduceEqDiff, Nat.reduceAdd, Nat.reduceMul, Nat.reduceLT, Nat.reduceLeDiff, Nat.reduceBEq, Int.reduceLT, reduceCtorEq, enum, C.ref03.Set.rs]
  simp only [Int.toNat_natCast]
  refine ⟨by omega, ?_⟩
  rw [← inSet_nil]
  refine Set_l0 l n (by omega) (by omega) ?_ l.length 0 _ _ (by omega)
  intro g gg
  simp only [↓cnd_t, ↓cnd_f, ↓cnf_t, ↓cnf_f, VS, astep, Nat.reduceEqDiff, Nat.reduceAdd, Nat.reduceMul, Nat.reduceLT, Nat.reduceLeDiff, Nat.reduceBEq, Int.reduceLT, reduceCtorEq]
  exact ends_o (by decide) rfl rfl (fr_flatB _)
theorem inSet_congr {l m : List Int} {n : Nat} (h : ∀ x, x ∈ l ↔ x ∈ m) : inSet l n = inSet m n := by
  unfold inSet
  refine List.map_congr_left fun i _ => ?_
  rw [Bool.eq_iff_iff]; simp [h]
/-- One step of the reference's search, a row of them, a whole pass. -/
def stR (t : List (List Int)) (x : Nat) (l : List Int) (y : Nat) : List Int := if (x : Int) ∈ l ∧ (y : Int) ∈ l ∧ pd t x y ∉ l then l ++ [pd t x y] else l
def rowR (t : List (List Int)) (m : Nat) (l : List Int) (x : Nat) : List Int := (List.range m).foldl (stR t x) l
def passR (t : List (List Int)) (m : Nat) (l : List Int) : List Int := (List.range m).foldl (rowR t t.length) l
/-- Lists that only grow. -/
structure Grows (t : List (List Int)) (S : Int → Prop) (l m : List Int) : Prop where
  pre : ∃ k, m = l ++ k
  ok : l.Nodup → (∀ x ∈ l, inE t x) → (∀ x ∈ l, RGen t S x) → m.Nodup ∧ (∀ x ∈ m, inE t x) ∧ ∀ x ∈ m, RGen t S x
theorem Grows.refl {t : List (List Int)} {S : Int → Prop} (l : List Int) : Grows t S l l := ⟨⟨[], by simp⟩, fun a b c => ⟨a, b, c⟩⟩
theorem Grows.trans {t : List (List Int)} {S : Int → Prop} {a b c : List Int} (h : Grows t S a b) (k : Grows t S b c) : Grows t S a c := by
  obtain ⟨x, hx⟩ := h.pre
  obtain ⟨y, hy⟩ := k.pre
  refine ⟨⟨x ++ y, by rw [hy, hx, List.append_assoc]⟩, fun p q r => ?_⟩
  obtain ⟨p', q', r'⟩ := h.ok p q r
  exact k.ok p' q' r'
theorem Grows.len {t : List (List Int)} {S : Int → Prop} {a b : List Int} (h : Grows t S a b) : a.length ≤ b.length := by
  obtain ⟨x, hx⟩ := h.pre
  rw [hx]; simp
theorem Grows.same {t : List (List Int)} {S : Int → Prop} {a b : List Int} (h : Grows t S a b) (e : b.length ≤ a.length) : b = a := by
  obtain ⟨x, hx⟩ := h.pre
  rw [hx] at e ⊢
  have : x = [] := List.eq_nil_of_length_eq_zero (by simp at e; omega)
  rw [this, List.append_nil]
theorem grows_st {t : List (List Int)} (hs : sq t) {S : Int → Prop} {x y : Nat} (hx : x < t.length) (hy : y < t.length) (l : List Int) : Grows t S l (stR t x l y) := by
  unfold stR
  split
  · rename_i h
    refine ⟨⟨_, rfl⟩, fun a b c => ⟨?_, ?_, ?_⟩⟩
    · rw [List.nodup_append]; exact ⟨a, by simp, fun p hp q hq e => by simp at hq; subst hq; subst e; exact h.2.2 hp⟩
    · intro z hz
      rw [List.mem_append, List.mem_singleton] at hz
      rcases hz with hz | rfl
      · exact b z hz
      · exact sq_in hs (inE_of hx) (inE_of hy)
    · intro z hz
      rw [List.mem_append, List.mem_singleton] at hz
      rcases hz with hz | rfl
      · exact c z hz
      · exact .mul (c _ h.1) (c _ h.2.1)
  · exact .refl _
theorem grows_fold {t : List (List Int)} {S : Int → Prop} {f : List Int → Nat → List Int} : ∀ (xs : List Nat) (l : List Int), (∀ x ∈ xs, ∀ l, Grows t S l (f l x)) → Grows t S l (xs.foldl f l)
  | [], l, _ => .refl _
  | x :: xs, l, h => (h x (List.mem_cons_self ..) l).trans (grows_fold xs _ fun y hy => h y (List.mem_cons_of_mem _ hy))
theorem fold_same {t : List (List Int)} {S : Int → Prop} {f : List Int → Nat → List Int} : ∀ (xs : List Nat) (l : List Int), (∀ x ∈ xs, ∀ l, Grows t S l (f l x)) → (xs.foldl f l).length ≤ l.length → ∀ x ∈ xs, f l x = l
  | [], l, _, _ => fun x hx => by cases hx
  | x :: xs, l, h, he => by
    have h1 := h x (List.mem_cons_self ..) l
    have h2 := grows_fold (t := t) (S := S) xs (f l x) fun y hy => h y (List.mem_cons_of_mem _ hy)
    have he : (xs.foldl f (f l x)).length ≤ l.length := he
    have e1 := h1.same (by have := h2.len; omega)
    intro y hy
    rcases List.mem_cons.1 hy with rfl | hy
    · exact e1
    · rw [e1] at he
      exact fold_same xs l (fun z hz => h z (List.mem_cons_of_mem _ hz)) he y hy
theorem grows_row {t : List (List Int)} (hs : sq t) {S : Int → Prop} {m x : Nat} (hm : m ≤ t.length) (hx : x < t.length) (l : List Int) : Grows t S l (rowR t m l x) :=
  grows_fold _ _ fun y hy l => grows_st hs hx (by have := List.mem_range.1 hy; omega) l
theorem grows_pass {t : List (List Int)} (hs : sq t) {S : Int → Prop} {m : Nat} (hm : m ≤ t.length) (l : List Int) : Grows t S l (passR t m l) :=
  grows_fold _ _ fun x hx l => grows_row hs (Nat.le_refl _) (by have := List.mem_range.1 hx; omega) l
theorem pass_closed {t : List (List Int)} (hs : sq t) {l : List Int} (h : (passR t t.length l).length ≤ l.length) (hl : ∀ x ∈ l, inE t x) {x y : Int} (hx : x ∈ l) (hy : y ∈ l) : pd t x y ∈ l := by
  obtain ⟨a, ha, rfl⟩ := inE_nat (hl x hx)
  obtain ⟨b, hb, rfl⟩ := inE_nat (hl y hy)
  have h1 := fold_same (t := t) (S := fun _ => True) _ _ (fun x hx l => grows_row hs (Nat.le_refl _) (by have := List.mem_range.1 hx; omega) l) h a (List.mem_range.2 ha)
  have h2 := fold_same (t := t) (S := fun _ => True) (List.range t.length) l (fun y hy l => grows_st hs ha (by have := List.mem_range.1 hy; omega) l) (by show (rowR t t.length l a).length ≤ _; rw [h1]; exact Nat.le_refl _) b (List.mem_range.2 hb)
  refine Classical.byContradiction fun hn => ?_
  unfold stR at h2
  rw [if_pos ⟨hx, hy, hn⟩] at h2
  have := congrArg List.length h2
  simp at this
theorem rowR_succ (t : List (List Int)) (m : Nat) (l : List Int) (x : Nat) : rowR t (m + 1) l x = stR t x (rowR t m l x) m := by simp [rowR, List.range_succ]
theorem passR_succ (t : List (List Int)) (m : Nat) (l : List Int) : passR t (m + 1) l = rowR t t.length (passR t m l) m := by simp [passR, List.range_succ]
abbrev gM (gg : Gen) (n : Nat) (l : List Int) : Option Blk := some (eM gg Tbool 1 n (c1 eB) (inSet l n))
theorem rgen_l4 {Γ : Ctx} (t : List (List Int)) (hs : sq t) (hl : t.length ≤ 400) (x : Nat) (hx : x < t.length) (l0 : Nat) (l : List Int) (hl0 : l0 ≤ l.length) (g : Nat) (gg : Gen) :
    W Γ C.ref14.Generated.L4 (mk 60 [(0, LLI false false t), (5, .own 0 gg), (6, eB (decide (l0 < l.length))), (7, eN .i64 x), (15, eN .i64 t.length), (16, eN .i64 x), (20, eN .i64 t.length), (21, eN .i64 0)] [gM gg t.length l] g)
      (fun e s => e = .exit 4 ∧ ∃ g, s = mk 60 [(0, LLI false false t), (5, .own 0 gg), (6, eB (decide (l0 < (rowR t t.length l x).length))), (15, eN .i64 t.length), (16, eN .i64 x)] [gM gg t.length (rowR t t.length l x)] g) := by
  refine W.for (n := t.length) (fun j st => ∃ g, st = mk 60 [(0, LLI false false t), (5, .own 0 gg), (6, eB (decide (l0 < (rowR t j l x).length))), (7, eN .i64 x), (15, eN .i64 t.length), (16, eN .i64 x), (20, eN .i64 t.length), (21, eN .i64 j)] [gM gg t.length (rowR t j l x)] g) ?_ ?_ (Nat.zero_le _) ⟨_, rfl⟩
  · rintro _ ⟨g, rfl⟩
    refine W.go C.ref14.Generated.l4.eq_1 ?_
    simp only [↓cnd_t, ↓cnd_f, ↓cnf_t, ↓cnf_f, VS, astep, Nat.reduceEqDiff, Nat.reduceAdd, Nat.reduceMul, Nat.reduceLT, Nat.reduceLeDiff, Nat.reduceBEq, Int.reduceLT, reduceCtorEq, decide_true, decide_false, Int.lt_irrefl]
    exact ⟨_, rfl⟩
  · rintro j hj ih _ ⟨g, rfl⟩
    refine W.go C.ref14.Generated.l4.eq_1 ?_
    have hlt := dlt (show (j : Int) < t.length by omega)
    have hw := wr1 (i := j) (by omega)
    have r1 := (sq_row hs (x := x) (by omega) (by omega)).1
    have hp := sq_in hs (inE_of hx) (inE_of hj)
    have hgr := (grows_row hs (S := fun _ => True) (Nat.le_of_lt hj) hx l).len
    generalize hm : rowR t j l x = m at ih hgr ⊢
    have es : rowR t (j + 1) l x = stR t x m j := by rw [rowR_succ, hm]
    simp only [↓cnd_t, ↓cnd_f, ↓cnf_t, ↓cnf_f, VS, astep, Nat.reduceEqDiff, Nat.reduceAdd, Nat.reduceMul, Nat.reduceLT, Nat.reduceLeDiff, Nat.reduceBEq, Int.reduceLT, reduceCtorEq, decide_true, decide_false, Int.lt_irrefl, hlt, hw]
    simp only [inSet_len, r1]
    have hxi : inE t (x : Int) := inE_of hx
    have hji : inE t (j : Int) := inE_of hj
    have e3 : gt (gt t (x : Int)) (j : Int) = pd t x j := rfl
    simp only [e3, inSet_gt hxi.1 hxi.2, inSet_gt hji.1 hji.2, inSet_gt hp.1 hp.2]
    have hs2 : stR t x m j = if (x : Int) ∈ m ∧ (j : Int) ∈ m ∧ pd t x j ∉ m then m ++ [pd t x j] else m := rfl
    have fin : ∀ {b : Bool} {k : List Int} {g : Nat}, k = stR t x m j → b = decide (l0 < k.length) → ∃ g', mk 60 [(0, LLI false false t), (5, .own 0 gg), (6, eB b), (7, eN .i64 x), (15, eN .i64 t.length), (16, eN .i64 x), (20, eN .i64 t.length), (21, eN .i64 (j + 1 : Nat))] [gM gg t.length k] g = mk 60 [(0, LLI false false t), (5, .own 0 gg), (6, eB (decide (l0 < (rowR t (j + 1) l x).length))), (7, eN .i64 x), (15, eN .i64 t.length), (16, eN .i64 x), (20, eN .i64 t.length), (21, eN .i64 (j + 1 : Nat))] [gM gg t.length (rowR t (j + 1) l x)] g' := by
      intro b k g' h1 h2
      subst h2
      rw [es, ← h1]
      exact ⟨_, rfl⟩
    have hpn : (pd t x j).toNat < t.length := by obtain ⟨a, b⟩ := hp; omega
    have no : ∀ {g : Nat}, ¬ ((x : Int) ∈ m ∧ (j : Int) ∈ m ∧ pd t x j ∉ m) → ∃ g', mk 60 [(0, LLI false false t), (5, .own 0 gg), (6, eB (decide (l0 < m.length))), (7, eN .i64 x), (15, eN .i64 t.length), (16, eN .i64 x), (20, eN .i64 t.length), (21, eN .i64 (j + 1 : Nat))] [gM gg t.length m] g = mk 60 [(0, LLI false false t), (5, .own 0 gg), (6, eB (decide (l0 < (rowR t (j + 1) l x).length))), (7, eN .i64 x), (15, eN .i64 t.length), (16, eN .i64 x), (20, eN .i64 t.length), (21, eN .i64 (j + 1 : Nat))] [gM gg t.length (rowR t (j + 1) l x)] g' := fun h => fin (by rw [hs2, if_neg h]) rfl
    refine ⟨hxi, by omega, fun d1 => ⟨hji, by omega, fun d2 => ⟨hxi, hji, hp, hpn, fun d3 => ⟨hxi, hji, hp, hpn, ?_⟩, fun d3 => ?_⟩, fun d2 => ?_⟩, fun d1 => ?_⟩
    · rw [inSet_put hp.1 hp.2]
      exact ih _ (fin (by rw [hs2, if_pos ⟨of_decide_eq_true d1, of_decide_eq_true d2, of_decide_eq_false d3⟩]) (by rw [decide_eq_true]; rw [List.length_append]; show l0 < m.length + 1; omega))
    · exact ih _ (no fun h => h.2.2 (of_decide_eq_true d3))
    · exact ih _ (no fun h => of_decide_eq_false d2 h.2.1)
    · exact ih _ (no fun h => of_decide_eq_false d1 h.1)
theorem rgen_l2 {Γ : Ctx} (t : List (List Int)) (hs : sq t) (hl : t.length ≤ 400) (l : List Int) (g : Nat) (gg : Gen) :
    W Γ C.ref14.Generated.L2 (mk 60 [(0, LLI false false t), (5, .own 0 gg), (6, eB false), (15, eN .i64 t.length), (16, eN .i64 0)] [gM gg t.length l] g)
      (fun e s => e = .exit 2 ∧ ∃ g, s = mk 60 [(0, LLI false false t), (5, .own 0 gg), (6, eB (decide (l.length < (passR t t.length l).length)))] [gM gg t.length (passR t t.length l)] g) := by
  refine W.for (n := t.length) (fun j st => ∃ g, st = mk 60 [(0, LLI false false t), (5, .own 0 gg), (6, eB (decide (l.length < (passR t j l).length))), (15, eN .i64 t.length), (16, eN .i64 j)] [gM gg t.length (passR t j l)] g) ?_ ?_ (Nat.zero_le _) ⟨_, by
    have : decide (l.length < (passR t 0 l).length) = false := decide_eq_false (Nat.lt_irrefl _)
    rw [this]; rfl⟩
  · rintro _ ⟨g, rfl⟩
    refine W.go C.ref14.Generated.l2.eq_1 ?_
    simp only [↓cnd_t, ↓cnd_f, ↓cnf_t, ↓cnf_f, VS, astep, Nat.reduceEqDiff, Nat.reduceAdd, Nat.reduceMul, Nat.reduceLT, Nat.reduceLeDiff, Nat.reduceBEq, Int.reduceLT, reduceCtorEq, decide_true, decide_false, Int.lt_irrefl]
    exact ⟨_, rfl⟩
  · rintro j hj ih _ ⟨g, rfl⟩
    refine W.go C.ref14.Generated.l2.eq_1 ?_
    have hlt := dlt (show (j : Int) < t.length by omega)
    have hw := wr1 (i := j) (by omega)
    simp only [↓cnd_t, ↓cnd_f, ↓cnf_t, ↓cnf_f, VS, astep, Nat.reduceEqDiff, Nat.reduceAdd, Nat.reduceMul, Nat.reduceLT, Nat.reduceLeDiff, Nat.reduceBEq, Int.reduceLT, reduceCtorEq, decide_true, decide_false, Int.lt_irrefl, hlt]
    refine W.mono (rgen_l4 t hs hl j hj l.length (passR t j l) (grows_pass hs (S := fun _ => True) (Nat.le_of_lt hj) l).len _ gg) ?_
    rintro _ _ ⟨rfl, g, rfl⟩
    simp only [↓cnd_t, ↓cnd_f, ↓cnf_t, ↓cnf_f, VS, astep, Nat.reduceEqDiff, Nat.reduceAdd, Nat.reduceMul, Nat.reduceLT, Nat.reduceLeDiff, Nat.reduceBEq, Int.reduceLT, reduceCtorEq, decide_true, decide_false, Int.lt_irrefl, hw]
    exact ih _ ⟨_, by rw [passR_succ]⟩
def okR (t : List (List Int)) (S : Int → Prop) (l : List Int) : Prop := l.Nodup ∧ (∀ x ∈ l, inE t x) ∧ ∀ x ∈ l, RGen t S x
abbrev PostR (t : List (List Int)) (S : Int → Prop) (gg : Gen) : Exit → St → Prop := fun e s => e = .exit 0 ∧ ∃ g m, okR t S m ∧ (∀ x, S x → x ∈ m) ∧ (∀ x ∈ m, ∀ y ∈ m, pd t x y ∈ m) ∧ s = mk 60 [(5, .own 0 gg)] [gM gg t.length m] g
theorem rgen_f {Γ : Ctx} (t : List (List Int)) (S : Int → Prop) (gg : Gen) (l : List Int) (g : Nat) (ok : okR t S l) (hS : ∀ x, S x → x ∈ l) (hc : ∀ x ∈ l, ∀ y ∈ l, pd t x y ∈ l) : W Γ C.ref14.Generated.L0 (mk 60 [(0, LLI false false t), (5, .own 0 gg), (6, eB false)] [gM gg t.length l] g) (PostR t S gg) := by
  refine W.go C.ref14.Generated.l0.eq_1 ?_
  simp only [↓cnd_t, ↓cnd_f, ↓cnf_t, ↓cnf_f, VS, astep, Nat.reduceEqDiff, Nat.reduceAdd, Nat.reduceMul, Nat.reduceLT, Nat.reduceLeDiff, Nat.reduceBEq, Int.reduceLT, reduceCtorEq, decide_true, decide_false, Int.lt_irrefl]
  exact ⟨rfl, _, l, ok, hS, hc, rfl⟩
theorem rgen_l0 {Γ : Ctx} (t : List (List Int)) (hs : sq t) (hl : t.length ≤ 400) (S : Int → Prop) (gg : Gen) : ∀ (k : Nat) (l : List Int) (g : Nat), t.length ≤ l.length + k → okR t S l → (∀ x, S x → x ∈ l) → W Γ C.ref14.Generated.L0 (mk 60 [(0, LLI false false t), (5, .own 0 gg), (6, eB true)] [gM gg t.length l] g) (PostR t S gg) := by
  have key : ∀ (l : List Int) (g : Nat), okR t S l → (∀ x, S x → x ∈ l) →
      (¬ (passR t t.length l).length ≤ l.length → ∀ g, W Γ C.ref14.Generated.L0 (mk 60 [(0, LLI false false t), (5, .own 0 gg), (6, eB true)] [gM gg t.length (passR t t.length l)] g) (PostR t S gg)) →
      W Γ C.ref14.Generated.L0 (mk 60 [(0, LLI false false t), (5, .own 0 gg), (6, eB true)] [gM gg t.length l] g) (PostR t S gg) := by
    intro l g ok hS next
    refine W.go C.ref14.Generated.l0.eq_1 ?_
    simp only [↓cnd_t, ↓cnd_f, ↓cnf_t, ↓cnf_f, VS, astep, Nat.reduceEqDiff, Nat.reduceAdd, Nat.reduceMul, Nat.reduceLT, Nat.reduceLeDiff, Nat.reduceBEq, Int.reduceLT, reduceCtorEq, decide_true, decide_false, Int.lt_irrefl]
    refine W.mono (rgen_l2 t hs hl l _ gg) ?_
    rintro _ _ ⟨rfl, g, rfl⟩
    have hg := grows_pass hs (S := S) (Nat.le_refl t.length) l
    by_cases hlen : (passR t t.length l).length ≤ l.length
    · have e := hg.same hlen
      have hd : decide (l.length < l.length) = false := decide_eq_false (Nat.lt_irrefl _)
      rw [e, hd]
      simp only [↓cnd_t, ↓cnd_f, ↓cnf_t, ↓cnf_f, VS, astep, Nat.reduceEqDiff, Nat.reduceAdd, Nat.reduceMul, Nat.reduceLT, Nat.reduceLeDiff, Nat.reduceBEq, Int.reduceLT, reduceCtorEq, decide_true, decide_false, Int.lt_irrefl]
      exact rgen_f t S gg l _ ok hS fun x hx y hy => pass_closed hs hlen ok.2.1 hx hy
    · have hd : decide (l.length < (passR t t.length l).length) = true := decide_eq_true (by omega)
      rw [hd]
      simp only [↓cnd_t, ↓cnd_f, ↓cnf_t, ↓cnf_f, VS, astep, Nat.reduceEqDiff, Nat.reduceAdd, Nat.reduceMul, Nat.reduceLT, Nat.reduceLeDiff, Nat.reduceBEq, Int.reduceLT, reduceCtorEq, decide_true, decide_false, Int.lt_irrefl]
      exact next hlen _
  intro k
  induction k with
  | zero =>
    intro l g hk ok hS
    refine key l g ok hS fun hn => absurd ?_ hn
    have h1 := (grows_pass hs (S := S) (Nat.le_refl t.length) l).ok ok.1 ok.2.1 ok.2.2
    have := nodup_le (n := t.length) h1.1 h1.2.1
    omega
  | succ k ih =>
    intro l g hk ok hS
    refine key l g ok hS fun hn g => ?_
    have hg := grows_pass hs (S := S) (Nat.le_refl t.length) l
    obtain ⟨m, hm⟩ := hg.pre
    exact ih _ g (by omega) (hg.ok ok.1 ok.2.1 ok.2.2) (fun x hx => by rw [hm]; exact List.mem_append_left _ (hS x hx))
def R_rGenerated (args : List AV) (r : AV) : Prop := ∃ (t : List (List Int)) (gens : List Int), sq t ∧ t.length ≤ 400 ∧ gens.length < 2 ^ 40 ∧ (∀ x ∈ gens, inE t x) ∧ args = [LLI false false t, LI false gens] ∧ r = LI true (memP (RGen t (· ∈ gens)) t.length)
theorem fk_Generated : Fk prog ⟨F_ref14_Generated, false, R_rGenerated⟩ := C.ref14.Generated.fkS (es := [⟨F_ref03_Members, false, R_mems⟩]) (ss := [⟨F_ref03_Set, S_O R_SetO⟩]) ⟨fk_Members, trivial⟩ ⟨fo_Set.sp, trivial⟩ <| by
  rintro _ _ ⟨t, gens, hs, hl, hgl, hg, rfl, rfl⟩
  refine ⟨Run.of C.ref14.Generated.top.eq_1 (by simp) ?_, fun _ => fr_LI _⟩
  simp only [↓cnd_t, ↓cnd_f, ↓cnf_t, ↓cnf_f, VS, astep, Nat.reduceEqDiff, Nat.reduceAdd, Nat.reduceMul, Nat.reduceLT, Nat.reduceLeDiff, Nat.reduceBEq, Int.reduceLT, reduceCtorEq, decide_true, decide_false, Int.lt_irrefl, enum, C.ref14.Generated.rs]
  refine YC.sp (R := S_O R_SetO) rfl _ _ ⟨[LI false gens, eN .i64 t.length], 0, Tbool, 1, t.length, (inSet gens t.length).flatMap (c1 eB), .cons (cv_LI ff) (.cons (.lit _) .nil), ⟨gens, t.length, hgl, by omega, rfl, rfl, rfl, rfl, rfl⟩, by simp, rfl, rfl⟩ ?_
  simp only [↓cnd_t, ↓cnd_f, ↓cnf_t, ↓cnf_f, VS, astep, Nat.reduceEqDiff, Nat.reduceAdd, Nat.reduceMul, Nat.reduceLT, Nat.reduceLeDiff, Nat.reduceBEq, Int.reduceLT, reduceCtorEq, decide_true, decide_false, Int.lt_irrefl]
  have hcg : inSet gens t.length = inSet (addsN id gens []) t.length := inSet_congr fun x => by rw [addsN_mem]; simp
  have ok : okR t (· ∈ gens) (addsN id gens []) := by
    have hm : ∀ x ∈ addsN id gens [], x ∈ gens := fun x hx => by
      rcases addsN_mem.1 hx with hx | ⟨y, hy, rfl⟩
      · cases hx
      · exact hy
    exact ⟨addsN_nodup (by simp), fun x hx => hg x (hm x hx), fun x hx => .base (hm x hx)⟩
  rw [hcg]
  refine W.mono (rgen_l0 t hs hl (· ∈ gens) (1, 3) t.length (addsN id gens []) _ (by omega) ok (fun x hx => addsN_mem.2 (.inr ⟨x, hx, rfl⟩))) ?_
  rintro _ _ ⟨rfl, g, m, ok', hS, hcl, rfl⟩
  simp only [↓cnd_t, ↓cnd_f, ↓cnf_t, ↓cnf_f, VS, astep, Nat.reduceEqDiff, Nat.reduceAdd, Nat.reduceMul, Nat.reduceLT, Nat.reduceLeDiff, Nat.reduceBEq, Int.reduceLT, reduceCtorEq, decide_true, decide_false, Int.lt_irrefl]
  refine YC.of (R := R_mems) (l := false) rfl [LB false (inSet m t.length)] _ ⟨inSet m t.length, by rw [inSet_len]; omega, rfl, rfl⟩ (.cons (cv_mB bk0 (inSet_len m t.length).symm ff) .nil) ?_
  simp only [↓cnd_t, ↓cnd_f, ↓cnf_t, ↓cnf_f, VS, astep, Nat.reduceEqDiff, Nat.reduceAdd, Nat.reduceMul, Nat.reduceLT, Nat.reduceLeDiff, Nat.reduceBEq, Int.reduceLT, reduceCtorEq, decide_true, decide_false, Int.lt_irrefl]
  have hin : ∀ x, RGen t (· ∈ gens) x → x ∈ m := by
    intro x hx
    induction hx with
    | base h => exact hS _ h
    | mul _ _ ih ih' => exact hcl _ ih _ ih'
  rw [inSet_len, mems_inSet (P := RGen t (· ∈ gens)) fun x _ _ => ⟨fun hx => ok'.2.2 x hx, fun hx => hin x hx⟩]
  exact ends_1 (by decide) (cv_LI fun _ => ⟨rfl, rfl⟩)
end Go.Proofs.YtbpajecjaoefaaaGreat.V

/- The subgroup that elements generate: the program's walk; closures and commutators. -/





namespace Go.Proofs.YtbpajecjaoefaaaGreat.V

open Go Go.RowKit Go.Proofs.Tryz

abbrev gB (gg : Gen) (t : List (List Int)) : Option Blk := some (.box gg Tgroup_group [LLI false false t, eN .i64 (ident t), LI false (invs t)])
abbrev gI (gg : Gen) (n : Nat) (l : List Int) : Option Blk := some (eM gg Tbool 1 n (c1 eB) (inSet l n))
abbrev gL (gg : Gen) (l : List Int) : Option Blk := some (eR gg Tint 1 (c1 (eN .i64)) l)
def okL (t : List (List Int)) (l : List Int) : Prop := l.Nodup ∧ ∀ x ∈ l, inE t x
theorem okL_len {t : List (List Int)} {l : List Int} (h : okL t l) : l.length ≤ t.length := nodup_le h.1 h.2
theorem okL_add {t : List (List Int)} {l : List Int} {y : Int} (h : okL t l) (hy : inE t y) : okL t (addNew l y) :=
  ⟨addNew_nodup h.1, fun x hx => by rcases addNew_mem.1 hx with hx | rfl; · exact h.2 x hx
                                    · exact hy⟩
theorem okL_adds {α : Type} {t : List (List Int)} {f : α → Int} : ∀ {xs : List α} {l : List Int}, okL t l → (∀ x ∈ xs, inE t (f x)) → okL t (addsN f xs l)
  | [], l, h, _ => h
  | x :: xs, l, h, hf => okL_adds (xs := xs) (okL_add h (hf x (List.mem_cons_self ..))) fun y hy => hf y (List.mem_cons_of_mem _ hy)
theorem take_succ' {α : Type} {l : List α} {j : Nat} (h : j < l.length) : l.take (j + 1) = l.take j ++ [l[j]] := by rw [List.take_add_one, List.getElem?_eq_getElem h]; rfl
theorem addNew_in {l : List Int} {y : Int} (h : y ∈ l) : addNew l y = l := if_pos h
theorem addNew_out {l : List Int} {y : Int} (h : y ∉ l) : addNew l y = l ++ [y] := if_neg h
theorem gen_l2 {Γ : Ctx} (t : List (List Int)) (h : grp t = true) (gens : List Int) (hg : ∀ x ∈ gens, inE t x) (hgl : gens.length < 2 ^ 46) (I : Nat) (l0 : List Int) (ok : okL t l0) (hI : I < l0.length) (g : Nat) (gb g1 g2 : Gen) :
    W Γ C.group.group.generate.L2 (mk 61 [(1, LI false gens), (2, .ptr 0 gb 0), (5, .own 1 g1), (6, .own 2 g2), (7, eN .i64 I), (28, LI false gens), (29, eN .i64 gens.length), (30, eN .i64 0)] [gB gb t, gI g1 t.length l0, gL g2 l0, none] g)
      (fun e s => e = .exit 2 ∧ ∃ g g2, s = mk 61 [(1, LI false gens), (2, .ptr 0 gb 0), (5, .own 1 g1), (6, .own 2 g2), (7, eN .i64 I)] [gB gb t, gI g1 t.length (addsN (pd t (gt l0 I)) gens l0), gL g2 (addsN (pd t (gt l0 I)) gens l0), none] g) := by
  have G := grp_Grp h
  have hn := G.n
  have hp0 : gt l0 I = l0[I] := gt_nat hI
  have hpi : inE t (gt l0 I) := by rw [hp0]; exact ok.2 _ (List.getElem_mem _)
  refine W.for (n := gens.length) (fun j st => ∃ g g2, st = mk 61 [(1, LI false gens), (2, .ptr 0 gb 0), (5, .own 1 g1), (6, .own 2 g2), (7, eN .i64 I), (28, LI false gens), (29, eN .i64 gens.length), (30, eN .i64 j)] [gB gb t, gI g1 t.length (addsN (pd t (gt l0 I)) (gens.take j) l0), gL g2 (addsN (pd t (gt l0 I)) (gens.take j) l0), none] g) ?_ ?_ (Nat.zero_le _) ⟨_, _, rfl⟩
  · rintro _ ⟨g, g2, rfl⟩
    refine W.go C.group.group.generate.l2.eq_1 ?_
    rw [List.take_length]
    simp only [↓cnd_t, ↓cnd_f, ↓cnf_t, ↓cnf_f, VS, astep, Nat.reduceEqDiff, Nat.reduceAdd, Nat.reduceMul, Nat.reduceLT, Nat.reduceLeDiff, Nat.reduceBEq, Int.reduceLT, reduceCtorEq, decide_true, decide_false, Int.lt_irrefl]
    exact ⟨_, _, rfl⟩
  · rintro j hj ih _ ⟨g, g2, rfl⟩
    refine W.go C.group.group.generate.l2.eq_1 ?_
    have hlt := dlt (show (j : Int) < gens.length by omega)
    have hw := wr1 (i := j) (by omega)
    have hgj : gt gens j = gens[j] := gt_nat hj
    have hxi := hg _ (List.getElem_mem hj)
    have hokj : okL t (addsN (pd t (gt l0 I)) (gens.take j) l0) := okL_adds ok fun x hx => G.p hpi (hg x (List.mem_of_mem_take hx))
    have hlen := okL_len hokj
    have hy := G.p hpi hxi
    have hnext : addsN (pd t (gt l0 I)) (gens.take (j + 1)) l0 = addNew (addsN (pd t (gt l0 I)) (gens.take j) l0) (pd t (gt l0 I) gens[j]) := by rw [take_succ' hj, addsN_snoc]
    obtain ⟨m, hm⟩ := addsN_pre (f := pd t (gt l0 I)) (xs := gens.take j) (l := l0)
    have hgi : gt (addsN (pd t (gt l0 I)) (gens.take j) l0) I = gt l0 I := by
      rw [hm, gt_nat (by simp; omega), List.getElem_append_left hI, hp0]
    have hI' : I < (addsN (pd t (gt l0 I)) (gens.take j) l0).length := by rw [hm]; simp; omega
    rw [hnext] at ih
    generalize addsN (pd t (gt l0 I)) (gens.take j) l0 = l at ih hokj hlen hgi hI' ⊢
    have r1 := (sq_row G.s hpi.1 hpi.2).1
    simp only [↓cnd_t, ↓cnd_f, ↓cnf_t, ↓cnf_f, VS, astep, Nat.reduceEqDiff, Nat.reduceAdd, Nat.reduceMul, Nat.reduceLT, Nat.reduceLeDiff, Nat.reduceBEq, Int.reduceLT, reduceCtorEq, decide_true, decide_false, Int.lt_irrefl, hlt, hw]
    simp only [hgi, hgj, r1, inSet_len]
    have e3 : gt (gt t (gt l0 I)) gens[j] = pd t (gt l0 I) gens[j] := rfl
    simp only [e3, inSet_gt hy.1 hy.2]
    have hyn : (pd t (gt l0 I) gens[j]).toNat < t.length := by obtain ⟨a, b⟩ := hy; omega
    refine ⟨by omega, by omega, by omega, hpi, hxi, hy, hyn, fun hd => ⟨hy, hyn, ⟨by omega, by omega⟩, ?_⟩, fun hd => ?_⟩
    · have := ih _ ⟨g + 1 + 1 + 1 + 1 + 1 + 1 + 1, (g + 1 + 1 + 1 + 1 + 1, 3), rfl⟩
      rw [addNew_out (of_decide_eq_false hd)] at this
      unfold gL eR at this
      rw [List.length_append] at this
      rw [inSet_put hy.1 hy.2]
      exact this
    · have := ih _ ⟨g + 1 + 1 + 1 + 1 + 1, g2, rfl⟩
      rw [addNew_in (of_decide_eq_true hd)] at this
      exact this
theorem gen_l0 {Γ : Ctx} (t : List (List Int)) (h : grp t = true) (gens : List Int) (hg : ∀ x ∈ gens, inE t x) (hgl : gens.length < 2 ^ 46) (l0 : List Int) (ok : okL t l0) (g : Nat) (gb g1 g2 : Gen) :
    W Γ C.group.group.generate.L0 (mk 61 [(1, LI false gens), (2, .ptr 0 gb 0), (5, .own 1 g1), (6, .own 2 g2), (7, eN .i64 0)] [gB gb t, gI g1 t.length l0, gL g2 l0, none] g)
      (fun e s => e = .exit 0 ∧ ∃ g g2, s = mk 61 [(6, .own 2 g2)] [none, none, gL g2 (bfs t gens t.length 0 l0), none] g) := by
  have G := grp_Grp h
  have hn := G.n
  refine W.for (n := t.length) (fun i st => ∃ g g2 l, okL t l ∧ bfs t gens (t.length - i) i l = bfs t gens t.length 0 l0 ∧ st = mk 61 [(1, LI false gens), (2, .ptr 0 gb 0), (5, .own 1 g1), (6, .own 2 g2), (7, eN .i64 i)] [gB gb t, gI g1 t.length l, gL g2 l, none] g) ?_ ?_ (Nat.zero_le _) ⟨_, _, l0, ok, rfl, rfl⟩
  · rintro _ ⟨g, g2, l, hok, hb, rfl⟩
    refine W.go C.group.group.generate.l0.eq_1 ?_
    have hd : decide ((t.length : Int) < l.length) = false := decide_eq_false (by have := okL_len hok; omega)
    simp only [↓cnd_t, ↓cnd_f, ↓cnf_t, ↓cnf_f, VS, astep, Nat.reduceEqDiff, Nat.reduceAdd, Nat.reduceMul, Nat.reduceLT, Nat.reduceLeDiff, Nat.reduceBEq, Int.reduceLT, reduceCtorEq, decide_true, decide_false, Int.lt_irrefl, hd]
    rw [Nat.sub_self] at hb
    exact ⟨_, _, by rw [← hb]; rfl⟩
  · rintro i hi ih _ ⟨g, g2, l, hok, hb, rfl⟩
    refine W.go C.group.group.generate.l0.eq_1 ?_
    obtain ⟨k, hk⟩ : ∃ k, t.length - i = k + 1 := ⟨t.length - i - 1, by omega⟩
    rw [hk, bfs] at hb
    by_cases hil : i < l.length
    · have hd := dlt (show (i : Int) < l.length by omega)
      rw [if_pos hil] at hb
      simp only [↓cnd_t, ↓cnd_f, ↓cnf_t, ↓cnf_f, VS, astep, Nat.reduceEqDiff, Nat.reduceAdd, Nat.reduceMul, Nat.reduceLT, Nat.reduceLeDiff, Nat.reduceBEq, Int.reduceLT, reduceCtorEq, decide_true, decide_false, Int.lt_irrefl, hd]
      refine W.mono (gen_l2 t h gens hg hgl i l hok hil _ gb g1 g2) ?_
      rintro _ _ ⟨rfl, g, g2, rfl⟩
      have hw := wr1 (i := i) (by omega)
      simp only [↓cnd_t, ↓cnd_f, ↓cnf_t, ↓cnf_f, VS, astep, Nat.reduceEqDiff, Nat.reduceAdd, Nat.reduceMul, Nat.reduceLT, Nat.reduceLeDiff, Nat.reduceBEq, Int.reduceLT, reduceCtorEq, decide_true, decide_false, Int.lt_irrefl, hw]
      have hpi : inE t (gt l i) := by rw [gt_nat hil]; exact hok.2 _ (List.getElem_mem _)
      exact ih _ ⟨_, _, _, okL_adds hok fun x hx => G.p hpi (hg x hx), by rw [show t.length - (i + 1) = k by omega]; exact hb, rfl⟩
    · have hd : decide ((i : Int) < l.length) = false := decide_eq_false (by omega)
      rw [if_neg hil] at hb
      simp only [↓cnd_t, ↓cnd_f, ↓cnf_t, ↓cnf_f, VS, astep, Nat.reduceEqDiff, Nat.reduceAdd, Nat.reduceMul, Nat.reduceLT, Nat.reduceLeDiff, Nat.reduceBEq, Int.reduceLT, reduceCtorEq, decide_true, decide_false, Int.lt_irrefl, hd]
      exact ⟨_, _, by rw [← hb]⟩
def gA_ (t : List (List Int)) : AV := .agg [LLI false false t, eN .i64 (ident t), LI false (invs t)]
def R_gen (args : List AV) (r : AV) : Prop := ∃ (t : List (List Int)) (gens : List Int), grp t = true ∧ (∀ x ∈ gens, inE t x) ∧ gens.length < 2 ^ 46 ∧ args = [gA_ t, LI false gens] ∧ r = LI true (genL t gens)
theorem fk_gen : Fk prog ⟨F_group_group_generate, false, R_gen⟩ := C.group.group.generate.fkS (es := []) (ss := [⟨F_sort_Ints, S_sortInts⟩]) trivial ⟨fsp_sortInts, trivial⟩ <| by
  rintro _ _ ⟨t, gens, h, hg, hgl, rfl, rfl⟩
  have G := grp_Grp h
  have hn := G.n
  refine ⟨Run.of C.group.group.generate.top.eq_1 (by simp) ?_, fun _ => fr_LI _⟩
  simp only [↓cnd_t, ↓cnd_f, ↓cnf_t, ↓cnf_f, VS, astep, Nat.reduceEqDiff, Nat.reduceAdd, Nat.reduceMul, Nat.reduceLT, Nat.reduceLeDiff, Nat.reduceBEq, Int.reduceLT, reduceCtorEq, decide_true, decide_false, Int.lt_irrefl, enum, C.group.group.generate.rs, gA_, List.length_cons, List.length_nil]
  have hee := G.ee
  have hen : (ident t).toNat < t.length := by obtain ⟨a, b⟩ := hee; omega
  simp only [Int.toNat_natCast, ← inSet_nil, inSet_len, inSet_put hee.1 hee.2, List.nil_append]
  refine ⟨by omega, hee, hen, ?_⟩
  have ok : okL t [ident t] := ⟨by simp, fun x hx => by simp at hx; subst hx; exact hee⟩
  refine W.mono (gen_l0 t h gens hg hgl [ident t] ok _ (0, 0) (1, 3) (3, 2)) ?_
  rintro _ _ ⟨rfl, g, g2, rfl⟩
  have hb : (bfs t gens t.length 0 [ident t]).length ≤ t.length := by
    have := bfs_ok G hg t.length 0 [ident t] (by omega) ok.1 ok.2 (fun x hx => by simp at hx; subst hx; exact .one) (by simp) (fun j _ hj => by omega)
    exact nodup_le this.1 fun x hx => ((this.2 x).1 hx).1
  simp only [↓cnd_t, ↓cnd_f, ↓cnf_t, ↓cnf_f, VS, astep, Nat.reduceEqDiff, Nat.reduceAdd, Nat.reduceMul, Nat.reduceLT, Nat.reduceLeDiff, Nat.reduceBEq, Int.reduceLT, reduceCtorEq, decide_true, decide_false, Int.lt_irrefl]
  refine YC.sp (R := S_sortInts) rfl (.tup []) _ ⟨2, g2, Tint, bfs t gens t.length 0 [ident t], by omega, rfl, rfl, rfl, rfl⟩ ?_
  simp only [↓cnd_t, ↓cnd_f, ↓cnf_t, ↓cnf_f, VS, astep, Nat.reduceEqDiff, Nat.reduceAdd, Nat.reduceMul, Nat.reduceLT, Nat.reduceLeDiff, Nat.reduceBEq, Int.reduceLT, reduceCtorEq, decide_true, decide_false, Int.lt_irrefl]
  rw [bfs_genL h hg]
  exact ends_1 (by decide) (cv_oI bk2 (fun _ => rfl))
theorem invs_gt' {t : List (List Int)} {x : Int} (hx : inE t x) : gt (invs t) x = iv t x := by
  obtain ⟨n, hn, rfl⟩ := inE_nat hx
  unfold gt iv
  rw [List.getD_eq_getElem?_getD, Int.toNat_natCast, invs_at hn]; rfl
theorem invs_in {t : List (List Int)} (h : grp t = true) {x : Int} (hx : inE t x) : inE t (gt (invs t) x) := by rw [invs_gt' hx]; exact (iv_spec h hx).1
/-- A conjugate, a commutator. -/
def cj (t : List (List Int)) (h : Int) (x : Nat) : Int := pd t (pd t x h) (gt (invs t) x)
def cm (t : List (List Int)) (x y : Int) : Int := pd t (pd t (pd t x y) (gt (invs t) x)) (gt (invs t) y)
theorem cj_in {t : List (List Int)} (h : grp t = true) {y : Int} (hy : inE t y) {x : Nat} (hx : x < t.length) : inE t (cj t y x) :=
  (grp_Grp h).p ((grp_Grp h).p (inE_of hx) hy) (invs_in h (inE_of hx))
theorem cm_in {t : List (List Int)} (h : grp t = true) {x y : Int} (hx : inE t x) (hy : inE t y) : inE t (cm t x y) :=
  (grp_Grp h).p ((grp_Grp h).p ((grp_Grp h).p hx hy) (invs_in h hx)) (invs_in h hy)
def clo1 (t : List (List Int)) (l : List Int) (h : Int) : List Int := addsN (cj t h) (List.range t.length) l
def der1 (t : List (List Int)) (sub : List Int) (l : List Int) (x : Int) : List Int := addsN (cm t x) sub l
theorem okL_clo1 {t : List (List Int)} (h : grp t = true) {l : List Int} (hl : okL t l) {y : Int} (hy : inE t y) : okL t (clo1 t l y) := okL_adds hl fun x hx => cj_in h hy (List.mem_range.1 hx)
theorem okL_der1 {t : List (List Int)} (h : grp t = true) {sub l : List Int} (hs : ∀ x ∈ sub, inE t x) (hl : okL t l) {y : Int} (hy : inE t y) : okL t (der1 t sub l y) := okL_adds hl fun x hx => cm_in h hy (hs x hx)
theorem okL_fold {t : List (List Int)} {f : List Int → Int → List Int} : ∀ {xs l : List Int}, (∀ l x, x ∈ xs → okL t l → okL t (f l x)) → okL t l → okL t (xs.foldl f l)
  | [], l, _, h => h
  | x :: xs, l, hf, h => okL_fold (xs := xs) (fun l y hy => hf l y (List.mem_cons_of_mem _ hy)) (hf l x (List.mem_cons_self ..) h)
theorem foldl_take_succ {α β : Type} {f : β → α → β} {xs : List α} {j : Nat} (h : j < xs.length) (b : β) : (xs.take (j + 1)).foldl f b = f ((xs.take j).foldl f b) xs[j] := by rw [take_succ' h, List.foldl_append]; rfl
-- the closure's inner loop

theorem clo_l2 {Γ : Ctx} (t : List (List Int)) (h : grp t = true) (gens : List Int) (I : Nat) (y : Int) (hy : inE t y) (l0 : List Int) (ok : okL t l0) (g : Nat) (gb g1 g2 : Gen) :
    W Γ C.group.group.closure.L2 (mk 63 [(2, .ptr 0 gb 0), (5, .own 1 g1), (6, .own 2 g2), (8, eN .i64 y), (15, LI false gens), (16, eN .i64 gens.length), (17, eN .i64 I), (23, eN .i64 t.length), (24, eN .i64 0)] [gB gb t, gI g1 t.length l0, gL g2 l0, none] g)
      (fun e s => e = .exit 2 ∧ ∃ g g2, s = mk 63 [(2, .ptr 0 gb 0), (5, .own 1 g1), (6, .own 2 g2), (15, LI false gens), (16, eN .i64 gens.length), (17, eN .i64 I)] [gB gb t, gI g1 t.length (clo1 t l0 y), gL g2 (clo1 t l0 y), none] g) := by
  have G := grp_Grp h
  have hn := G.n
  refine W.for (n := t.length) (fun j st => ∃ g g2, st = mk 63 [(2, .ptr 0 gb 0), (5, .own 1 g1), (6, .own 2 g2), (8, eN .i64 y), (15, LI false gens), (16, eN .i64 gens.length), (17, eN .i64 I), (23, eN .i64 t.length), (24, eN .i64 j)] [gB gb t, gI g1 t.length (addsN (cj t y) (List.range j) l0), gL g2 (addsN (cj t y) (List.range j) l0), none] g) ?_ ?_ (Nat.zero_le _) ⟨_, _, rfl⟩
  · rintro _ ⟨g, g2, rfl⟩
    refine W.go C.group.group.closure.l2.eq_1 ?_
    simp only [↓cnd_t, ↓cnd_f, ↓cnf_t, ↓cnf_f, VS, astep, Nat.reduceEqDiff, Nat.reduceAdd, Nat.reduceMul, Nat.reduceLT, Nat.reduceLeDiff, Nat.reduceBEq, Int.reduceLT, reduceCtorEq, decide_true, decide_false, Int.lt_irrefl]
    exact ⟨_, _, rfl⟩
  · rintro j hj ih _ ⟨g, g2, rfl⟩
    refine W.go C.group.group.closure.l2.eq_1 ?_
    have hlt := dlt (show (j : Int) < t.length by omega)
    have hw := wr1 (i := j) (by omega)
    have hokj : okL t (addsN (cj t y) (List.range j) l0) := okL_adds ok fun x hx => cj_in h hy (by have := List.mem_range.1 hx; omega)
    have hlen := okL_len hokj
    have hc := cj_in h hy hj
    have hji := inE_of hj
    have hxy := G.p hji hy
    have hiv := invs_in h hji
    have hnext : addsN (cj t y) (List.range (j + 1)) l0 = addNew (addsN (cj t y) (List.range j) l0) (cj t y j) := by rw [List.range_succ, addsN_snoc]
    rw [hnext] at ih
    generalize addsN (cj t y) (List.range j) l0 = l at ih hokj hlen ⊢
    have r1 := (sq_row G.s hji.1 hji.2).1
    have r2 := (sq_row G.s hxy.1 hxy.2).1
    simp only [↓cnd_t, ↓cnd_f, ↓cnf_t, ↓cnf_f, VS, astep, Nat.reduceEqDiff, Nat.reduceAdd, Nat.reduceMul, Nat.reduceLT, Nat.reduceLeDiff, Nat.reduceBEq, Int.reduceLT, reduceCtorEq, decide_true, decide_false, Int.lt_irrefl, hlt, hw, List.length_cons, List.length_nil]
    have e1 : gt (gt t (j : Int)) y = pd t j y := rfl
    have e2 : gt (gt t (pd t j y)) (gt (invs t) (j : Int)) = cj t y j := rfl
    simp only [e1, e2, r1, r2, invs_len, inSet_len, inSet_gt hc.1 hc.2]
    have hcn : (cj t y j).toNat < t.length := by obtain ⟨a, b⟩ := hc; omega
    refine ⟨hji, hy, hxy, hji, hiv, hc, hcn, fun hd => ⟨hc, hcn, ⟨by omega, by omega⟩, ?_⟩, fun hd => ?_⟩
    · have := ih _ ⟨g + 1 + 1 + 1 + 1 + 1 + 1 + 1, (g + 1 + 1 + 1 + 1 + 1, 3), rfl⟩
      rw [addNew_out (of_decide_eq_false hd)] at this
      unfold gL eR at this
      rw [List.length_append] at this
      rw [inSet_put hc.1 hc.2]
      exact this
    · have := ih _ ⟨g + 1 + 1 + 1 + 1 + 1, g2, rfl⟩
      rw [addNew_in (of_decide_eq_true hd)] at this
      exact this
theorem clo_l0 {Γ : Ctx} (t : List (List Int)) (h : grp t = true) (gens : List Int) (hg : ∀ x ∈ gens, inE t x) (hgl : gens.length < 2 ^ 46) (g : Nat) (gb g1 g2 : Gen) :
    W Γ C.group.group.closure.L0 (mk 63 [(2, .ptr 0 gb 0), (5, .own 1 g1), (6, .own 2 g2), (15, LI false gens), (16, eN .i64 gens.length), (17, eN .i64 0)] [gB gb t, gI g1 t.length [], gL g2 [], none] g)
      (fun e s => e = .exit 0 ∧ ∃ g g2, s = mk 63 [(2, .ptr 0 gb 0), (6, .own 2 g2)] [gB gb t, none, gL g2 (gens.foldl (clo1 t) []), none] g) := by
  refine W.for (n := gens.length) (fun j st => ∃ g g2, st = mk 63 [(2, .ptr 0 gb 0), (5, .own 1 g1), (6, .own 2 g2), (15, LI false gens), (16, eN .i64 gens.length), (17, eN .i64 j)] [gB gb t, gI g1 t.length ((gens.take j).foldl (clo1 t) []), gL g2 ((gens.take j).foldl (clo1 t) []), none] g) ?_ ?_ (Nat.zero_le _) ⟨_, _, rfl⟩
  · rintro _ ⟨g, g2, rfl⟩
    refine W.go C.group.group.closure.l0.eq_1 ?_
    rw [List.take_length]
    simp only [↓cnd_t, ↓cnd_f, ↓cnf_t, ↓cnf_f, VS, astep, Nat.reduceEqDiff, Nat.reduceAdd, Nat.reduceMul, Nat.reduceLT, Nat.reduceLeDiff, Nat.reduceBEq, Int.reduceLT, reduceCtorEq, decide_true, decide_false, Int.lt_irrefl]
    exact ⟨_, _, rfl⟩
  · rintro j hj ih _ ⟨g, g2, rfl⟩
    refine W.go C.group.group.closure.l0.eq_1 ?_
    have hlt := dlt (show (j : Int) < gens.length by omega)
    have hw := wr1 (i := j) (by omega)
    have hgj : gt gens j = gens[j] := gt_nat hj
    have ok : okL t ((gens.take j).foldl (clo1 t) []) := okL_fold (fun l x hx hl => okL_clo1 h hl (hg x (List.mem_of_mem_take hx))) ⟨by simp, by simp⟩
    simp only [↓cnd_t, ↓cnd_f, ↓cnf_t, ↓cnf_f, VS, astep, Nat.reduceEqDiff, Nat.reduceAdd, Nat.reduceMul, Nat.reduceLT, Nat.reduceLeDiff, Nat.reduceBEq, Int.reduceLT, reduceCtorEq, decide_true, decide_false, Int.lt_irrefl, hlt, List.length_cons, List.length_nil]
    simp only [hgj]
    refine ⟨by omega, ?_⟩
    refine W.mono (clo_l2 t h gens j gens[j] (hg _ (List.getElem_mem hj)) _ ok _ gb g1 g2) ?_
    rintro _ _ ⟨rfl, g, g2, rfl⟩
    simp only [↓cnd_t, ↓cnd_f, ↓cnf_t, ↓cnf_f, VS, astep, Nat.reduceEqDiff, Nat.reduceAdd, Nat.reduceMul, Nat.reduceLT, Nat.reduceLeDiff, Nat.reduceBEq, Int.reduceLT, reduceCtorEq, decide_true, decide_false, Int.lt_irrefl, hw]
    exact ih _ ⟨_, _, by rw [foldl_take_succ hj]⟩
def R_clo (args : List AV) (r : AV) : Prop := ∃ (t : List (List Int)) (gens : List Int), grp t = true ∧ (∀ x ∈ gens, inE t x) ∧ gens.length < 2 ^ 46 ∧ args = [gA_ t, LI false gens] ∧ r = LI true (genL t (gens.foldl (clo1 t) []))
theorem lv3 {a b c : AV} : loadv 3 true [a, b, c] = some (.agg [a, b, c]) := rfl
theorem cv_gB {st : St} {O L : Bool} (t : List (List Int)) (b : Bool) : Cv st O L (.agg [LLI false false t, eN .i64 (ident t), LI b (invs t)]) (gA_ t) := cv_agg (Cc.cons (cv_LLI ff ff) (Cc.cons (.lit _) (Cc.cons (cv_LI ff) Cc.nil)))
theorem fk_closure : Fk prog ⟨F_group_group_closure, false, R_clo⟩ := C.group.group.closure.fk (es := [⟨F_group_group_generate, false, R_gen⟩]) ⟨fk_gen, trivial⟩ <| by
  rintro _ _ ⟨t, gens, h, hg, hgl, rfl, rfl⟩
  have G := grp_Grp h
  have hn := G.n
  have ok : okL t (gens.foldl (clo1 t) []) := okL_fold (fun l x hx hl => okL_clo1 h hl (hg x hx)) ⟨by simp, by simp⟩
  have hlen := okL_len ok
  refine ⟨Run.of C.group.group.closure.top.eq_1 (by simp) ?_, fun _ => fr_LI _⟩
  simp only [↓cnd_t, ↓cnd_f, ↓cnf_t, ↓cnf_f, VS, astep, Nat.reduceEqDiff, Nat.reduceAdd, Nat.reduceMul, Nat.reduceLT, Nat.reduceLeDiff, Nat.reduceBEq, Int.reduceLT, reduceCtorEq, decide_true, decide_false, Int.lt_irrefl, enum, C.group.group.closure.rs, gA_, List.length_cons, List.length_nil]
  simp only [Int.toNat_natCast, ← inSet_nil]
  refine ⟨by omega, ?_⟩
  refine W.mono (clo_l0 t h gens hg hgl _ (0, 0) (1, 3) (2, 0)) ?_
  rintro _ _ ⟨rfl, g, g2, rfl⟩
  simp only [↓cnd_t, ↓cnd_f, ↓cnf_t, ↓cnf_f, VS, astep, Nat.reduceEqDiff, Nat.reduceAdd, Nat.reduceMul, Nat.reduceLT, Nat.reduceLeDiff, Nat.reduceBEq, Int.reduceLT, reduceCtorEq, decide_true, decide_false, Int.lt_irrefl, List.length_cons, List.length_nil, lv3]
  refine YC.of (R := R_gen) (l := false) rfl [gA_ t, LI false (gens.foldl (clo1 t) [])] _ ⟨t, _, h, ok.2, by omega, rfl, rfl⟩ (.cons (cv_gB t false) (.cons (cv_oI bk2 ff) .nil)) ?_
  simp only [↓cnd_t, ↓cnd_f, ↓cnf_t, ↓cnf_f, VS, astep, Nat.reduceEqDiff, Nat.reduceAdd, Nat.reduceMul, Nat.reduceLT, Nat.reduceLeDiff, Nat.reduceBEq, Int.reduceLT, reduceCtorEq, decide_true, decide_false, Int.lt_irrefl]
  exact ends_1 (by decide) (cv_LI fun _ => ⟨rfl, rfl⟩)
-- commutators

theorem der_l2 {Γ : Ctx} (t : List (List Int)) (h : grp t = true) (sub : List Int) (hs : ∀ x ∈ sub, inE t x) (hsl : sub.length < 2 ^ 46) (I : Nat) (y : Int) (hy : inE t y) (l0 : List Int) (ok : okL t l0) (g : Nat) (gb g1 g2 : Gen) :
    W Γ C.group.group.derived.L2 (mk 75 [(1, LI false sub), (2, .ptr 0 gb 0), (5, .own 1 g1), (6, .own 2 g2), (8, eN .i64 y), (16, LI false sub), (17, eN .i64 sub.length), (18, eN .i64 I), (22, LI false sub), (23, eN .i64 sub.length), (24, eN .i64 0)] [gB gb t, gI g1 t.length l0, gL g2 l0, none] g)
      (fun e s => e = .exit 2 ∧ ∃ g g2, s = mk 75 [(1, LI false sub), (2, .ptr 0 gb 0), (5, .own 1 g1), (6, .own 2 g2), (16, LI false sub), (17, eN .i64 sub.length), (18, eN .i64 I)] [gB gb t, gI g1 t.length (der1 t sub l0 y), gL g2 (der1 t sub l0 y), none] g) := by
  have G := grp_Grp h
  have hn := G.n
  refine W.for (n := sub.length) (fun j st => ∃ g g2, st = mk 75 [(1, LI false sub), (2, .ptr 0 gb 0), (5, .own 1 g1), (6, .own 2 g2), (8, eN .i64 y), (16, LI false sub), (17, eN .i64 sub.length), (18, eN .i64 I), (22, LI false sub), (23, eN .i64 sub.length), (24, eN .i64 j)] [gB gb t, gI g1 t.length (addsN (cm t y) (sub.take j) l0), gL g2 (addsN (cm t y) (sub.take j) l0), none] g) ?_ ?_ (Nat.zero_le _) ⟨_, _, rfl⟩
  · rintro _ ⟨g, g2, rfl⟩
    refine W.go C.group.group.derived.l2.eq_1 ?_
    rw [List.take_length]
    simp only [↓cnd_t, ↓cnd_f, ↓cnf_t, ↓cnf_f, VS, astep, Nat.reduceEqDiff, Nat.reduceAdd, Nat.reduceMul, Nat.reduceLT, Nat.reduceLeDiff, Nat.reduceBEq, Int.reduceLT, reduceCtorEq, decide_true, decide_false, Int.lt_irrefl]
    exact ⟨_, _, rfl⟩
  · rintro j hj ih _ ⟨g, g2, rfl⟩
    refine W.go C.group.group.derived.l2.eq_1 ?_
    have hlt := dlt (show (j : Int) < sub.length by omega)
    have hw := wr1 (i := j) (by omega)
    have hgj : gt sub j = sub[j] := gt_nat hj
    have hz := hs _ (List.getElem_mem hj)
    have hokj : okL t (addsN (cm t y) (sub.take j) l0) := okL_adds ok fun x hx => cm_in h hy (hs x (List.mem_of_mem_take hx))
    have hlen := okL_len hokj
    have hc := cm_in h hy hz
    have hxy := G.p hy hz
    have hi1 := invs_in h hy
    have hi2 := invs_in h hz
    have hx3 := G.p hxy hi1
    have hnext : addsN (cm t y) (sub.take (j + 1)) l0 = addNew (addsN (cm t y) (sub.take j) l0) (cm t y sub[j]) := by rw [take_succ' hj, addsN_snoc]
    rw [hnext] at ih
    generalize addsN (cm t y) (sub.take j) l0 = l at ih hokj hlen ⊢
    have r1 := (sq_row G.s hy.1 hy.2).1
    have r2 := (sq_row G.s hxy.1 hxy.2).1
    have r3 := (sq_row G.s hx3.1 hx3.2).1
    simp only [↓cnd_t, ↓cnd_f, ↓cnf_t, ↓cnf_f, VS, astep, Nat.reduceEqDiff, Nat.reduceAdd, Nat.reduceMul, Nat.reduceLT, Nat.reduceLeDiff, Nat.reduceBEq, Int.reduceLT, reduceCtorEq, decide_true, decide_false, Int.lt_irrefl, hlt, hw, List.length_cons, List.length_nil]
    have e1 : gt (gt t y) sub[j] = pd t y sub[j] := rfl
    have e2 : gt (gt t (pd t y sub[j])) (gt (invs t) y) = pd t (pd t y sub[j]) (gt (invs t) y) := rfl
    have e3 : gt (gt t (pd t (pd t y sub[j]) (gt (invs t) y))) (gt (invs t) sub[j]) = cm t y sub[j] := rfl
    simp only [hgj, e1, e2, e3, r1, r2, r3, invs_len, inSet_len, inSet_gt hc.1 hc.2]
    have hcn : (cm t y sub[j]).toNat < t.length := by obtain ⟨a, b⟩ := hc; omega
    refine ⟨by omega, hy, hz, hxy, hy, hi1, hx3, hz, hi2, hc, hcn, fun hd => ⟨hc, hcn, ⟨by omega, by omega⟩, ?_⟩, fun hd => ?_⟩
    · have := ih _ ⟨g + 1 + 1 + 1 + 1 + 1 + 1 + 1, (g + 1 + 1 + 1 + 1 + 1, 3), rfl⟩
      rw [addNew_out (of_decide_eq_false hd)] at this
      unfold gL eR at this
      rw [List.length_append] at this
      rw [inSet_put hc.1 hc.2]
      exact this
    · have := ih _ ⟨g + 1 + 1 + 1 + 1 + 1, g2, rfl⟩
      rw [addNew_in (of_decide_eq_true hd)] at this
      exact this
theorem der_l0 {Γ : Ctx} (t : List (List Int)) (h : grp t = true) (sub : List Int) (hs : ∀ x ∈ sub, inE t x) (hsl : sub.length < 2 ^ 46) (g : Nat) (gb g1 g2 : Gen) :
    W Γ C.group.group.derived.L0 (mk 75 [(1, LI false sub), (2, .ptr 0 gb 0), (5, .own 1 g1), (6, .own 2 g2), (16, LI false sub), (17, eN .i64 sub.length), (18, eN .i64 0)] [gB gb t, gI g1 t.length [], gL g2 [], none] g)
      (fun e s => e = .exit 0 ∧ ∃ g g2, s = mk 75 [(2, .ptr 0 gb 0), (6, .own 2 g2)] [gB gb t, none, gL g2 (sub.foldl (der1 t sub) []), none] g) := by
  refine W.for (n := sub.length) (fun j st => ∃ g g2, st = mk 75 [(1, LI false sub), (2, .ptr 0 gb 0), (5, .own 1 g1), (6, .own 2 g2), (16, LI false sub), (17, eN .i64 sub.length), (18, eN .i64 j)] [gB gb t, gI g1 t.length ((sub.take j).foldl (der1 t sub) []), gL g2 ((sub.take j).foldl (der1 t sub) []), none] g) ?_ ?_ (Nat.zero_le _) ⟨_, _, rfl⟩
  · rintro _ ⟨g, g2, rfl⟩
    refine W.go C.group.group.derived.l0.eq_1 ?_
    rw [List.take_length]
    simp only [↓cnd_t, ↓cnd_f, ↓cnf_t, ↓cnf_f, VS, astep, Nat.reduceEqDiff, Nat.reduceAdd, Nat.reduceMul, Nat.reduceLT, Nat.reduceLeDiff, Nat.reduceBEq, Int.reduceLT, reduceCtorEq, decide_true, decide_false, Int.lt_irrefl]
    exact ⟨_, _, rfl⟩
  · rintro j hj ih _ ⟨g, g2, rfl⟩
    refine W.go C.group.group.derived.l0.eq_1 ?_
    have hlt := dlt (show (j : Int) < sub.length by omega)
    have hw := wr1 (i := j) (by omega)
    have hgj : gt sub j = sub[j] := gt_nat hj
    have ok : okL t ((sub.take j).foldl (der1 t sub) []) := okL_fold (fun l x hx hl => okL_der1 h hs hl (hs x (List.mem_of_mem_take hx))) ⟨by simp, by simp⟩
    simp only [↓cnd_t, ↓cnd_f, ↓cnf_t, ↓cnf_f, VS, astep, Nat.reduceEqDiff, Nat.reduceAdd, Nat.reduceMul, Nat.reduceLT, Nat.reduceLeDiff, Nat.reduceBEq, Int.reduceLT, reduceCtorEq, decide_true, decide_false, Int.lt_irrefl, hlt]
    simp only [hgj]
    refine ⟨by omega, ?_⟩
    refine W.mono (der_l2 t h sub hs hsl j sub[j] (hs _ (List.getElem_mem hj)) _ ok _ gb g1 g2) ?_
    rintro _ _ ⟨rfl, g, g2, rfl⟩
    simp only [↓cnd_t, ↓cnd_f, ↓cnf_t, ↓cnf_f, VS, astep, Nat.reduceEqDiff, Nat.reduceAdd, Nat.reduceMul, Nat.reduceLT, Nat.reduceLeDiff, Nat.reduceBEq, Int.reduceLT, reduceCtorEq, decide_true, decide_false, Int.lt_irrefl, hw]
    exact ih _ ⟨_, _, by rw [foldl_take_succ hj]⟩
def derL (t : List (List Int)) (sub : List Int) : List Int := sub.foldl (der1 t sub) []
def R_der (args : List AV) (r : AV) : Prop := ∃ (t : List (List Int)) (sub : List Int), grp t = true ∧ (∀ x ∈ sub, inE t x) ∧ sub.length < 2 ^ 46 ∧ args = [gA_ t, LI false sub] ∧ r = LI true (genL t (derL t sub))
theorem fk_derived : Fk prog ⟨F_group_group_derived, false, R_der⟩ := C.group.group.derived.fk (es := [⟨F_group_group_generate, false, R_gen⟩]) ⟨fk_gen, trivial⟩ <| by
  rintro _ _ ⟨t, sub, h, hs, hsl, rfl, rfl⟩
  have G := grp_Grp h
  have hn := G.n
  have ok : okL t (sub.foldl (der1 t sub) []) := okL_fold (fun l x hx hl => okL_der1 h hs hl (hs x hx)) ⟨by simp, by simp⟩
  have hlen := okL_len ok
  refine ⟨Run.of C.group.group.derived.top.eq_1 (by simp) ?_, fun _ => fr_LI _⟩
  simp only [↓cnd_t, ↓cnd_f, ↓cnf_t, ↓cnf_f, VS, astep, Nat.reduceEqDiff, Nat.reduceAdd, Nat.reduceMul, Nat.reduceLT, Nat.reduceLeDiff, Nat.reduceBEq, Int.reduceLT, reduceCtorEq, decide_true, decide_false, Int.lt_irrefl, enum, C.group.group.derived.rs, gA_, List.length_cons, List.length_nil]
  simp only [Int.toNat_natCast, ← inSet_nil]
  refine ⟨by omega, ?_⟩
  refine W.mono (der_l0 t h sub hs hsl _ (0, 0) (1, 3) (2, 0)) ?_
  rintro _ _ ⟨rfl, g, g2, rfl⟩
  simp only [↓cnd_t, ↓cnd_f, ↓cnf_t, ↓cnf_f, VS, astep, Nat.reduceEqDiff, Nat.reduceAdd, Nat.reduceMul, Nat.reduceLT, Nat.reduceLeDiff, Nat.reduceBEq, Int.reduceLT, reduceCtorEq, decide_true, decide_false, Int.lt_irrefl, List.length_cons, List.length_nil, lv3]
  refine YC.of (R := R_gen) (l := false) rfl [gA_ t, LI false (sub.foldl (der1 t sub) [])] _ ⟨t, _, h, ok.2, by omega, rfl, rfl⟩ (.cons (cv_gB t false) (.cons (cv_oI bk2 ff) .nil)) ?_
  simp only [↓cnd_t, ↓cnd_f, ↓cnf_t, ↓cnf_f, VS, astep, Nat.reduceEqDiff, Nat.reduceAdd, Nat.reduceMul, Nat.reduceLT, Nat.reduceLeDiff, Nat.reduceBEq, Int.reduceLT, reduceCtorEq, decide_true, decide_false, Int.lt_irrefl]
  exact ends_1 (by decide) (cv_LI fun _ => ⟨rfl, rfl⟩)
def R_all (args : List AV) (r : AV) : Prop := ∃ t : List (List Int), t.length ≤ 400 ∧ args = [gA_ t] ∧ r = LI true (iota t.length)
theorem fk_all : Fk prog ⟨F_group_group_all, false, R_all⟩ := C.group.group.all.fk (es := [⟨F_partition_Discrete, false, R_iota⟩]) ⟨fk_pDiscrete, trivial⟩ <| by
  rintro _ _ ⟨t, hn, rfl, rfl⟩
  refine ⟨Run.of C.group.group.all.top.eq_1 (by simp) ?_, fun _ => fr_LI _⟩
  simp only [↓cnd_t, ↓cnd_f, ↓cnf_t, ↓cnf_f, VS, astep, Nat.reduceEqDiff, Nat.reduceAdd, Nat.reduceMul, Nat.reduceLT, Nat.reduceLeDiff, Nat.reduceBEq, Int.reduceLT, reduceCtorEq, decide_true, decide_false, Int.lt_irrefl, enum, C.group.group.all.rs, gA_, List.length_cons, List.length_nil]
  refine YC.of (R := R_iota) rfl [eN .i64 t.length] _ ⟨t.length, by omega, rfl, rfl⟩ (.cons (.lit _) .nil) ?_
  simp only [↓cnd_t, ↓cnd_f, ↓cnf_t, ↓cnf_f, VS, astep, Nat.reduceEqDiff, Nat.reduceAdd, Nat.reduceMul, Nat.reduceLT, Nat.reduceLeDiff, Nat.reduceBEq, Int.reduceLT, reduceCtorEq, decide_true, decide_false, Int.lt_irrefl]
  exact ends_1 (by decide) (cv_LI fun _ => ⟨rfl, rfl⟩)
theorem iota_in {t : List (List Int)} : ∀ x ∈ iota t.length, inE t x := by
  intro x hx
  simp only [iota, List.mem_map, List.mem_range] at hx
  obtain ⟨i, hi, rfl⟩ := hx
  exact inE_of hi
def R_Der (args : List AV) (r : AV) : Prop := ∃ t : List (List Int), t.length < 2 ^ 62 ∧ args = [LLI false false t] ∧ r = LI true (if grp t then genL t (derL t (iota t.length)) else [])
theorem fk_Derived : Fk prog ⟨F_group_Derived, false, R_Der⟩ := C.group.Derived.fk (es := [⟨F_group_of, true, R_of⟩, ⟨F_group_group_all, false, R_all⟩, ⟨F_group_group_derived, false, R_der⟩]) ⟨fk_gof, fk_all, fk_derived, trivial⟩ <| by
  rintro _ _ ⟨t, hl, rfl, rfl⟩
  refine ⟨Run.of C.group.Derived.top.eq_1 (by simp) ?_, fun _ => fr_LI _⟩
  simp only [↓cnd_t, ↓cnd_f, ↓cnf_t, ↓cnf_f, VS, astep, Nat.reduceEqDiff, Nat.reduceAdd, Nat.reduceMul, Nat.reduceLT, Nat.reduceLeDiff, Nat.reduceBEq, Int.reduceLT, reduceCtorEq, decide_true, decide_false, Int.lt_irrefl, enum, C.group.Derived.rs]
  refine YC.of (R := R_of) rfl [LLI false false t] _ ⟨t, hl, rfl, rfl⟩ (.cons (cv_LLI ff ff) .nil) ?_
  cases hg : grp t with
  | false =>
    simp only [↓cnd_t, ↓cnd_f, ↓cnf_t, ↓cnf_f, VS, astep, Nat.reduceEqDiff, Nat.reduceAdd, Nat.reduceMul, Nat.reduceLT, Nat.reduceLeDiff, Nat.reduceBEq, Int.reduceLT, reduceCtorEq, decide_true, decide_false, Int.lt_irrefl]
    refine ⟨gvL_ok t, ends_1 (by decide) ?_⟩
    exact cv_LI (l := []) fun _ => ⟨rfl, rfl⟩
  | true =>
    have hn := (grp_Grp hg).n
    simp only [↓cnd_t, ↓cnd_f, ↓cnf_t, ↓cnf_f, VS, astep, Nat.reduceEqDiff, Nat.reduceAdd, Nat.reduceMul, Nat.reduceLT, Nat.reduceLeDiff, Nat.reduceBEq, Int.reduceLT, reduceCtorEq, decide_true, decide_false, Int.lt_irrefl, gvL_t hg, List.length_cons, List.length_nil, List.all_cons, List.all_nil, lv3]
    refine YCD.of (R := R_all) rfl [gA_ t] _ ⟨t, hn, rfl, rfl⟩ (.cons (cv_gB t true) .nil) ?_
    simp only [↓cnd_t, ↓cnd_f, ↓cnf_t, ↓cnf_f, VS, astep, Nat.reduceEqDiff, Nat.reduceAdd, Nat.reduceMul, Nat.reduceLT, Nat.reduceLeDiff, Nat.reduceBEq, Int.reduceLT, reduceCtorEq, decide_true, decide_false, Int.lt_irrefl]
    refine YCD.of (R := R_der) rfl [gA_ t, LI false (iota t.length)] _ ⟨t, _, hg, iota_in, by rw [iota_len]; omega, rfl, rfl⟩ (.cons (cv_gB t true) (.cons (cv_LI ff) .nil)) ?_
    simp only [↓cnd_t, ↓cnd_f, ↓cnf_t, ↓cnf_f, VS, astep, Nat.reduceEqDiff, Nat.reduceAdd, Nat.reduceMul, Nat.reduceLT, Nat.reduceLeDiff, Nat.reduceBEq, Int.reduceLT, reduceCtorEq, decide_true, decide_false, Int.lt_irrefl]
    exact ends_1 (by decide) (cv_LI fun _ => ⟨rfl, rfl⟩)
def cloF (t : List (List Int)) (gens : List Int) : List Int := gens.foldl (clo1 t) []
open Classical in

noncomputable def cloR (t : List (List Int)) (gens : List Int) : List Int := if grp t = true ∧ ∀ x ∈ gens, inE t x then genL t (cloF t gens) else []
def R_Clo (args : List AV) (r : AV) : Prop := ∃ (t : List (List Int)) (gens : List Int), t.length < 2 ^ 62 ∧ gens.length < 2 ^ 46 ∧ args = [LLI false false t, LI false gens] ∧ r = LI true (cloR t gens)
theorem fk_Closure : Fk prog ⟨F_group_Closure, false, R_Clo⟩ := C.group.Closure.fk (es := [⟨F_group_of, true, R_of⟩, ⟨F_group_group_closure, false, R_clo⟩]) ⟨fk_gof, fk_closure, trivial⟩ <| by
  rintro _ _ ⟨t, gens, hl, hgl, rfl, rfl⟩
  refine ⟨Run.of C.group.Closure.top.eq_1 (by simp) ?_, fun _ => fr_LI _⟩
  simp only [↓cnd_t, ↓cnd_f, ↓cnf_t, ↓cnf_f, VS, astep, Nat.reduceEqDiff, Nat.reduceAdd, Nat.reduceMul, Nat.reduceLT, Nat.reduceLeDiff, Nat.reduceBEq, Int.reduceLT, reduceCtorEq, decide_true, decide_false, Int.lt_irrefl, enum, C.group.Closure.rs]
  refine YC.of (R := R_of) rfl [LLI false false t] _ ⟨t, hl, rfl, rfl⟩ (.cons (cv_LLI ff ff) .nil) ?_
  cases hg : grp t with
  | false =>
    simp only [↓cnd_t, ↓cnd_f, ↓cnf_t, ↓cnf_f, VS, astep, Nat.reduceEqDiff, Nat.reduceAdd, Nat.reduceMul, Nat.reduceLT, Nat.reduceLeDiff, Nat.reduceBEq, Int.reduceLT, reduceCtorEq, decide_true, decide_false, Int.lt_irrefl]
    refine ⟨gvL_ok t, ends_1 (by decide) ?_⟩
    rw [cloR, if_neg (by simp [hg])]; exact cv_LI (l := []) fun _ => ⟨rfl, rfl⟩
  | true =>
    simp only [↓cnd_t, ↓cnd_f, ↓cnf_t, ↓cnf_f, VS, astep, Nat.reduceEqDiff, Nat.reduceAdd, Nat.reduceMul, Nat.reduceLT, Nat.reduceLeDiff, Nat.reduceBEq, Int.reduceLT, reduceCtorEq, decide_true, decide_false, Int.lt_irrefl, gvL_t hg, List.length_cons, List.length_nil, List.all_cons, List.all_nil]
    refine W.for (n := gens.length) (fun i st => ∃ g gg, (∀ x ∈ gens.take i, inE t x) ∧ st = mk 34 [(0, LLI false false t), (1, LI false gens), (5, .ptr 0 gg 0), (16, LI false gens), (17, eN .i64 gens.length), (18, eN .i64 i)] [some (.box gg Tgroup_group [LLI false false t, eN .i64 (ident t), LI true (invs t)])] g) ?_ ?_ (Nat.zero_le _) ⟨_, _, by simp, rfl⟩
    · rintro _ ⟨g, gg, hno, rfl⟩
      rw [List.take_length] at hno
      refine W.go C.group.Closure.l0.eq_1 ?_
      simp only [↓cnd_t, ↓cnd_f, ↓cnf_t, ↓cnf_f, VS, astep, Nat.reduceEqDiff, Nat.reduceAdd, Nat.reduceMul, Nat.reduceLT, Nat.reduceLeDiff, Nat.reduceBEq, Int.reduceLT, reduceCtorEq, decide_true, decide_false, Int.lt_irrefl, List.length_cons, List.length_nil, lv3]
      refine YC.of (R := R_clo) rfl [gA_ t, LI false gens] _ ⟨t, gens, hg, hno, hgl, rfl, rfl⟩ (.cons (cv_gB t true) (.cons (cv_LI ff) .nil)) ?_
      simp only [↓cnd_t, ↓cnd_f, ↓cnf_t, ↓cnf_f, VS, astep, Nat.reduceEqDiff, Nat.reduceAdd, Nat.reduceMul, Nat.reduceLT, Nat.reduceLeDiff, Nat.reduceBEq, Int.reduceLT, reduceCtorEq, decide_true, decide_false, Int.lt_irrefl]
      refine ends_1 (by decide) ?_
      rw [cloR, if_pos ⟨hg, hno⟩]
      exact cv_LI fun _ => ⟨rfl, rfl⟩
    · rintro i hi ih _ ⟨g, gg, hno, rfl⟩
      refine W.go C.group.Closure.l0.eq_1 ?_
      have hlt := dlt (show (i : Int) < gens.length by omega)
      have hw := wr1 (i := i) (by omega)
      have hgi : gt gens i = gens[i] := gt_nat hi
      have bad : ¬ inE t gens[i] → cloR t gens = [] := fun hb => by
        rw [cloR, if_neg fun h => hb (h.2 _ (List.getElem_mem hi))]
      simp only [↓cnd_t, ↓cnd_f, ↓cnf_t, ↓cnf_f, VS, astep, Nat.reduceEqDiff, Nat.reduceAdd, Nat.reduceMul, Nat.reduceLT, Nat.reduceLeDiff, Nat.reduceBEq, Int.reduceLT, reduceCtorEq, decide_true, decide_false, Int.lt_irrefl, hlt, hw]
      simp only [hgi]
      refine ⟨by omega, fun h1 => ⟨fun h2 => ends_1 (by decide) ?_, fun h2 => ih _ ⟨_, _, fun x hx => ?_, rfl⟩⟩, fun h1 => ends_1 (by decide) ?_⟩
      · rw [bad (fun e => by have := e.2; omega)]; exact cv_LI (l := []) fun _ => ⟨rfl, rfl⟩
      · rw [take_succ' hi, List.mem_append, List.mem_singleton] at hx
        rcases hx with hx | rfl
        · exact hno x hx
        · exact ⟨by omega, by omega⟩
      · rw [bad (fun e => by have := e.1; omega)]; exact cv_LI (l := []) fun _ => ⟨rfl, rfl⟩
end Go.Proofs.YtbpajecjaoefaaaGreat.V

/- The reference's closures and commutators. -/





namespace Go.Proofs.YtbpajecjaoefaaaGreat.V

open Go Go.RowKit Go.Proofs.Tryz

def R_rAll (args : List AV) (r : AV) : Prop := ∃ t : List (List Int), t.length ≤ 400 ∧ args = [LLI false false t] ∧ r = LI true (iota t.length)
theorem fk_rAll : Fk prog ⟨F_ref16_All, false, R_rAll⟩ := C.ref16.All.fk (es := [⟨F_ref03_Discrete, false, R_iota⟩]) ⟨fk_rDiscrete, trivial⟩ <| by
  rintro _ _ ⟨t, hl, rfl, rfl⟩
  refine ⟨Run.of C.ref16.All.top.eq_1 (by simp) ?_, fun _ => fr_LI _⟩
  simp only [↓cnd_t, ↓cnd_f, ↓cnf_t, ↓cnf_f, VS, astep, Nat.reduceEqDiff, Nat.reduceAdd, Nat.reduceMul, Nat.reduceLT, Nat.reduceLeDiff, Nat.reduceBEq, Int.reduceLT, reduceCtorEq, decide_true, decide_false, Int.lt_irrefl, enum, C.ref16.All.rs]
  refine YC.of (R := R_iota) rfl [eN .i64 t.length] _ ⟨t.length, by omega, rfl, rfl⟩ (.cons (.lit _) .nil) ?_
  simp only [↓cnd_t, ↓cnd_f, ↓cnf_t, ↓cnf_f, VS, astep, Nat.reduceEqDiff, Nat.reduceAdd, Nat.reduceMul, Nat.reduceLT, Nat.reduceLeDiff, Nat.reduceBEq, Int.reduceLT, reduceCtorEq, decide_true, decide_false, Int.lt_irrefl]
  exact ends_1 (by decide) (cv_LI fun _ => ⟨rfl, rfl⟩)
theorem ivr_invs {t : List (List Int)} (h : grp t = true) {x : Int} (hx : inE t x) : ivr t x = gt (invs t) x := by rw [ivr_eq h hx, invs_gt' hx]
theorem rclo_l2 {Γ : Ctx} (t : List (List Int)) (h : grp t = true) (gens : List Int) (hg : ∀ x ∈ gens, inE t x) (hgl : gens.length < 2 ^ 30) (x : Nat) (hx : x < t.length) (l0 : List Int) (hl0 : l0.length < 2 ^ 40) (g : Nat) (g0 : Gen) :
    W Γ C.ref16.Closure.L2 (mk 48 [(0, LLI false false t), (1, LI false gens), (5, .own 0 g0), (6, eN .i64 x), (7, eN .i64 (gt (invs t) (x : Int))), (14, eN .i64 t.length), (15, eN .i64 x), (21, LI false gens), (22, eN .i64 gens.length), (23, eN .i64 0)] [gL g0 l0, none] g)
      (fun e s => e = .exit 2 ∧ ∃ g g0, s = mk 48 [(0, LLI false false t), (1, LI false gens), (5, .own 0 g0), (14, eN .i64 t.length), (15, eN .i64 x)] [gL g0 (l0 ++ gens.map fun y => cj t y x), none] g) := by
  have G := grp_Grp h
  have hn := G.n
  refine W.for (n := gens.length) (fun j st => ∃ g g0, st = mk 48 [(0, LLI false false t), (1, LI false gens), (5, .own 0 g0), (6, eN .i64 x), (7, eN .i64 (gt (invs t) (x : Int))), (14, eN .i64 t.length), (15, eN .i64 x), (21, LI false gens), (22, eN .i64 gens.length), (23, eN .i64 j)] [gL g0 (l0 ++ (gens.take j).map fun y => cj t y x), none] g) ?_ ?_ (Nat.zero_le _) ⟨g, g0, by rw [List.take_zero, List.map_nil, List.append_nil]; rfl⟩
  · rintro _ ⟨g, g0, rfl⟩
    refine W.go C.ref16.Closure.l2.eq_1 ?_
    rw [List.take_length]
    simp only [↓cnd_t, ↓cnd_f, ↓cnf_t, ↓cnf_f, VS, astep, Nat.reduceEqDiff, Nat.reduceAdd, Nat.reduceMul, Nat.reduceLT, Nat.reduceLeDiff, Nat.reduceBEq, Int.reduceLT, reduceCtorEq, decide_true, decide_false, Int.lt_irrefl]
    exact ⟨_, _, rfl⟩
  · rintro j hj ih _ ⟨g, g0, rfl⟩
    refine W.go C.ref16.Closure.l2.eq_1 ?_
    have hlt := dlt (show (j : Int) < gens.length by omega)
    have hw := wr1 (i := j) (by omega)
    have hgj : gt gens j = gens[j] := gt_nat hj
    have hxi := inE_of hx
    have hy := hg _ (List.getElem_mem hj)
    have hxy := G.p hxi hy
    have hiv := invs_in h hxi
    have hlen : (l0 ++ (gens.take j).map fun y => cj t y x).length < 2 ^ 41 := by simp; omega
    have hnext : (l0 ++ (gens.take (j + 1)).map fun y => cj t y x) = (l0 ++ (gens.take j).map fun y => cj t y x) ++ [cj t gens[j] x] := by rw [take_succ' hj, List.map_append, List.append_assoc]; rfl
    rw [hnext] at ih
    generalize (l0 ++ (gens.take j).map fun y => cj t y x) = l at ih hlen ⊢
    have r1 := (sq_row G.s hxi.1 hxi.2).1
    have r2 := (sq_row G.s hxy.1 hxy.2).1
    simp only [↓cnd_t, ↓cnd_f, ↓cnf_t, ↓cnf_f, VS, astep, Nat.reduceEqDiff, Nat.reduceAdd, Nat.reduceMul, Nat.reduceLT, Nat.reduceLeDiff, Nat.reduceBEq, Int.reduceLT, reduceCtorEq, decide_true, decide_false, Int.lt_irrefl, hlt, hw, List.length_cons, List.length_nil]
    simp only [hgj]
    have e1 : gt (gt t (x : Int)) gens[j] = pd t x gens[j] := rfl
    have e2 : gt (gt t (pd t x gens[j])) (gt (invs t) (x : Int)) = cj t gens[j] x := rfl
    simp only [e1, e2, r1, r2]
    refine ⟨by omega, hxi, hy, hxy, hiv, ⟨by omega, by omega⟩, ?_⟩
    refine ih _ ⟨g + 1 + 1 + 1 + 1, (g + 1 + 1, 15), ?_⟩
    unfold gL eR
    rw [List.length_append]
    rfl
/-- The lists whose closure the reference takes. -/
def rcl (t : List (List Int)) (gens : List Int) (n : Nat) : List Int := ident t :: (List.range n).flatMap fun x => gens.map fun y => cj t y x
theorem rcl_succ (t : List (List Int)) (gens : List Int) (n : Nat) : rcl t gens (n + 1) = rcl t gens n ++ gens.map fun y => cj t y n := by simp [rcl, List.range_succ]
theorem rcl_len (t : List (List Int)) (gens : List Int) (n : Nat) : (rcl t gens n).length = n * gens.length + 1 := by
  induction n with
  | zero => simp [rcl]
  | succ n ih => rw [rcl_succ, List.length_append, ih, List.length_map, Nat.succ_mul]; omega
theorem rcl_mem {t : List (List Int)} {gens : List Int} {n : Nat} {z : Int} : z ∈ rcl t gens n ↔ z = ident t ∨ ∃ x < n, ∃ y ∈ gens, cj t y x = z := by
  simp [rcl, List.mem_flatMap]
theorem rcl_in {t : List (List Int)} (h : grp t = true) {gens : List Int} (hg : ∀ x ∈ gens, inE t x) {z : Int} (hz : z ∈ rcl t gens t.length) : inE t z := by
  rcases rcl_mem.1 hz with rfl | ⟨x, hx, y, hy, rfl⟩
  · exact (grp_Grp h).ee
  · exact cj_in h (hg y hy) hx
def R_rClo (args : List AV) (r : AV) : Prop := ∃ (t : List (List Int)) (gens : List Int), grp t = true ∧ gens.length < 2 ^ 30 ∧ (∀ x ∈ gens, inE t x) ∧ args = [LLI false false t, LI false gens] ∧ r = LI true (memP (RGen t (· ∈ rcl t gens t.length)) t.length)
theorem fk_rClosure : Fk prog ⟨F_ref16_Closure, false, R_rClo⟩ := C.ref16.Closure.fk (es := [⟨F_ref14_Identity, false, R_ident14⟩, ⟨F_ref16_Inverse, false, R_rInv⟩, ⟨F_ref14_Generated, false, R_rGenerated⟩]) ⟨fk_Identity, fk_rInverse, fk_Generated, trivial⟩ <| by
  rintro _ _ ⟨t, gens, h, hgl, hg, rfl, rfl⟩
  have G := grp_Grp h
  have hn := G.n
  refine ⟨Run.of C.ref16.Closure.top.eq_1 (by simp) ?_, fun _ => fr_LI _⟩
  simp only [↓cnd_t, ↓cnd_f, ↓cnf_t, ↓cnf_f, VS, astep, Nat.reduceEqDiff, Nat.reduceAdd, Nat.reduceMul, Nat.reduceLT, Nat.reduceLeDiff, Nat.reduceBEq, Int.reduceLT, reduceCtorEq, decide_true, decide_false, Int.lt_irrefl, enum, C.ref16.Closure.rs]
  refine YC.of (R := R_ident14) rfl [LLI false false t] _ ⟨t, G.s, hn, rfl, rfl⟩ (.cons (cv_LLI ff ff) .nil) ?_
  simp only [↓cnd_t, ↓cnd_f, ↓cnf_t, ↓cnf_f, VS, astep, Nat.reduceEqDiff, Nat.reduceAdd, Nat.reduceMul, Nat.reduceLT, Nat.reduceLeDiff, Nat.reduceBEq, Int.reduceLT, reduceCtorEq, decide_true, decide_false, Int.lt_irrefl]
  have hlen : ∀ n ≤ t.length, (rcl t gens n).length < 2 ^ 39 := fun n hle => by
    rw [rcl_len]
    have : n * gens.length ≤ 400 * gens.length := Nat.mul_le_mul_right _ (by omega)
    omega
  refine W.for (n := t.length) (fun i st => ∃ g gg, st = mk 48 [(0, LLI false false t), (1, LI false gens), (5, .own 0 gg), (14, eN .i64 t.length), (15, eN .i64 i)] [gL gg (rcl t gens i), none] g) ?_ ?_ (Nat.zero_le _) ⟨_, _, rfl⟩
  · rintro _ ⟨g, gg, rfl⟩
    refine W.go C.ref16.Closure.l0.eq_1 ?_
    simp only [↓cnd_t, ↓cnd_f, ↓cnf_t, ↓cnf_f, VS, astep, Nat.reduceEqDiff, Nat.reduceAdd, Nat.reduceMul, Nat.reduceLT, Nat.reduceLeDiff, Nat.reduceBEq, Int.reduceLT, reduceCtorEq, decide_true, decide_false, Int.lt_irrefl]
    refine YC.of (R := R_rGenerated) (l := false) rfl [LLI false false t, LI false (rcl t gens t.length)] _ ⟨t, _, G.s, hn, by have := hlen _ (Nat.le_refl _); omega, fun x hx => rcl_in h hg hx, rfl, rfl⟩ (.cons (cv_LLI ff ff) (.cons (cv_oI bk0 ff) .nil)) ?_
    simp only [↓cnd_t, ↓cnd_f, ↓cnf_t, ↓cnf_f, VS, astep, Nat.reduceEqDiff, Nat.reduceAdd, Nat.reduceMul, Nat.reduceLT, Nat.reduceLeDiff, Nat.reduceBEq, Int.reduceLT, reduceCtorEq, decide_true, decide_false, Int.lt_irrefl]
    exact ends_1 (by decide) (cv_LI fun _ => ⟨rfl, rfl⟩)
  · rintro i hi ih _ ⟨g, gg, rfl⟩
    refine W.go C.ref16.Closure.l0.eq_1 ?_
    have hlt := dlt (show (i : Int) < t.length by omega)
    have hw := wr1 (i := i) (by omega)
    simp only [↓cnd_t, ↓cnd_f, ↓cnf_t, ↓cnf_f, VS, astep, Nat.reduceEqDiff, Nat.reduceAdd, Nat.reduceMul, Nat.reduceLT, Nat.reduceLeDiff, Nat.reduceBEq, Int.reduceLT, reduceCtorEq, decide_true, decide_false, Int.lt_irrefl, hlt]
    refine YC.of (R := R_rInv) rfl [LLI false false t, eN .i64 i] _ ⟨t, _, G.s, hn, inE_of hi, rfl, rfl⟩ (.cons (cv_LLI ff ff) (.cons (.lit _) .nil)) ?_
    rw [ivr_invs h (inE_of hi)]
    simp only [↓cnd_t, ↓cnd_f, ↓cnf_t, ↓cnf_f, VS, astep, Nat.reduceEqDiff, Nat.reduceAdd, Nat.reduceMul, Nat.reduceLT, Nat.reduceLeDiff, Nat.reduceBEq, Int.reduceLT, reduceCtorEq, decide_true, decide_false, Int.lt_irrefl]
    refine W.mono (rclo_l2 t h gens hg hgl i hi (rcl t gens i) (by have := hlen i (by omega); omega) _ gg) ?_
    rintro _ _ ⟨rfl, g, g0, rfl⟩
    simp only [↓cnd_t, ↓cnd_f, ↓cnf_t, ↓cnf_f, VS, astep, Nat.reduceEqDiff, Nat.reduceAdd, Nat.reduceMul, Nat.reduceLT, Nat.reduceLeDiff, Nat.reduceBEq, Int.reduceLT, reduceCtorEq, decide_true, decide_false, Int.lt_irrefl, hw]
    exact ih _ ⟨_, _, by rw [rcl_succ]⟩
/-- More of the neutral element makes nothing new. -/
theorem genP_e {t : List (List Int)} {e : Int} (G : Grp t e) {S S' : Int → Prop} (hS : ∀ x, S x → inE t x) (h : ∀ x, S' x ↔ x = e ∨ S x) {x : Int} : GenP t e S' x ↔ GenP t e S x := by
  constructor
  · intro hx
    induction hx with
    | one => exact .one
    | mul _ hy ih =>
      rcases (h _).1 hy with rfl | hy
      · rw [G.r _ (genP_inE G hS ih)]; exact ih
      · exact .mul ih hy
  · exact genP_mono fun y hy => (h y).2 (.inr hy)
theorem memP_congr {P Q : Int → Prop} {n : Nat} (h : ∀ x, P x ↔ Q x) : memP P n = memP Q n := by rw [show P = Q from funext fun x => propext (h x)]
theorem fold_clo_mem {t : List (List Int)} {z : Int} : ∀ {gens l : List Int}, z ∈ gens.foldl (clo1 t) l ↔ z ∈ l ∨ ∃ x < t.length, ∃ y ∈ gens, cj t y x = z
  | [], l => by simp
  | g :: gens, l => by
    rw [List.foldl_cons, fold_clo_mem, clo1, addsN_mem]
    simp only [List.mem_range, List.mem_cons]
    constructor
    · rintro ((h | ⟨x, hx, h⟩) | ⟨x, hx, y, hy, h⟩)
      · exact .inl h
      · exact .inr ⟨x, hx, g, .inl rfl, h⟩
      · exact .inr ⟨x, hx, y, .inr hy, h⟩
    · rintro (h | ⟨x, hx, y, rfl | hy, h⟩)
      · exact .inl (.inl h)
      · exact .inl (.inr ⟨x, hx, h⟩)
      · exact .inr ⟨x, hx, y, hy, h⟩
theorem cloR_eq {t : List (List Int)} (h : grp t = true) {gens : List Int} (hg : ∀ x ∈ gens, inE t x) : memP (RGen t (· ∈ rcl t gens t.length)) t.length = cloR t gens := by
  have G := grp_Grp h
  rw [cloR, if_pos ⟨h, hg⟩, genL]
  refine memP_congr fun x => ?_
  rw [RGen_iff G (fun y hy => rcl_in h hg hy) (rcl_mem.2 (.inl rfl))]
  have hm : ∀ y, y ∈ cloF t gens ↔ ∃ x < t.length, ∃ z ∈ gens, cj t z x = y := fun y => by rw [cloF, fold_clo_mem]; simp
  refine genP_e G (fun y hy => ?_) fun y => by rw [rcl_mem, hm]
  obtain ⟨x, hx, z, hz, rfl⟩ := (hm y).1 hy
  exact cj_in h (hg z hz) hx
-- commutators

theorem cm_eq {t : List (List Int)} (h : grp t = true) {x y : Int} (hx : inE t x) (hy : inE t y) : pd t (pd t x y) (pd t (gt (invs t) x) (gt (invs t) y)) = cm t x y := by
  have G := grp_Grp h
  exact (G.a _ _ _ (G.p hx hy) (invs_in h hx) (invs_in h hy)).symm
theorem rder_l2 {es : List Ent} (t : List (List Int)) (h : grp t = true) (sub : List Int) (hs : ∀ x ∈ sub, inE t x) (hsl : sub.length < 2 ^ 19) (i : Nat) (x : Int) (hx : inE t x) (l0 : List Int) (hl0 : l0.length < 2 ^ 40) (g : Nat) (g0 : Gen) :
    W (ctx (⟨F_ref16_Inverse, false, R_rInv⟩ :: es) []) C.ref16.Derived.L2 (mk 53 [(0, LLI false false t), (1, LI false sub), (5, .own 0 g0), (7, eN .i64 x), (10, LI false sub), (11, eN .i64 sub.length), (12, eN .i64 i), (16, LI false sub), (17, eN .i64 sub.length), (18, eN .i64 0)] [gL g0 l0, none] g)
      (fun e s => e = .exit 2 ∧ ∃ g g0, s = mk 53 [(0, LLI false false t), (1, LI false sub), (5, .own 0 g0), (10, LI false sub), (11, eN .i64 sub.length), (12, eN .i64 i)] [gL g0 (l0 ++ sub.map (cm t x)), none] g) := by
  have G := grp_Grp h
  have hn := G.n
  refine W.for (n := sub.length) (fun j st => ∃ g g0, st = mk 53 [(0, LLI false false t), (1, LI false sub), (5, .own 0 g0), (7, eN .i64 x), (10, LI false sub), (11, eN .i64 sub.length), (12, eN .i64 i), (16, LI false sub), (17, eN .i64 sub.length), (18, eN .i64 j)] [gL g0 (l0 ++ (sub.take j).map (cm t x)), none] g) ?_ ?_ (Nat.zero_le _) ⟨g, g0, by rw [List.take_zero, List.map_nil, List.append_nil]; rfl⟩
  · rintro _ ⟨g, g0, rfl⟩
    refine W.go C.ref16.Derived.l2.eq_1 ?_
    rw [List.take_length]
    simp only [↓cnd_t, ↓cnd_f, ↓cnf_t, ↓cnf_f, VS, astep, Nat.reduceEqDiff, Nat.reduceAdd, Nat.reduceMul, Nat.reduceLT, Nat.reduceLeDiff, Nat.reduceBEq, Int.reduceLT, reduceCtorEq, decide_true, decide_false, Int.lt_irrefl]
    exact ⟨_, _, rfl⟩
  · rintro j hj ih _ ⟨g, g0, rfl⟩
    refine W.go C.ref16.Derived.l2.eq_1 ?_
    have hlt := dlt (show (j : Int) < sub.length by omega)
    have hw := wr1 (i := j) (by omega)
    have hgj : gt sub j = sub[j] := gt_nat hj
    have hy := hs _ (List.getElem_mem hj)
    have hxy := G.p hx hy
    have hix := invs_in h hx
    have hiy := invs_in h hy
    have hii := G.p hix hiy
    have hlen : (l0 ++ (sub.take j).map (cm t x)).length < 2 ^ 41 := by simp; omega
    have hnext : (l0 ++ (sub.take (j + 1)).map (cm t x)) = (l0 ++ (sub.take j).map (cm t x)) ++ [cm t x sub[j]] := by rw [take_succ' hj, List.map_append, List.append_assoc]; rfl
    rw [hnext] at ih
    generalize (l0 ++ (sub.take j).map (cm t x)) = l at ih hlen ⊢
    have r1 := (sq_row G.s hx.1 hx.2).1
    have r2 := (sq_row G.s hxy.1 hxy.2).1
    have r3 := (sq_row G.s hix.1 hix.2).1
    simp only [↓cnd_t, ↓cnd_f, ↓cnf_t, ↓cnf_f, VS, astep, Nat.reduceEqDiff, Nat.reduceAdd, Nat.reduceMul, Nat.reduceLT, Nat.reduceLeDiff, Nat.reduceBEq, Int.reduceLT, reduceCtorEq, decide_true, decide_false, Int.lt_irrefl, hlt, hw, List.length_cons, List.length_nil]
    simp only [hgj]
    have e1 : gt (gt t x) sub[j] = pd t x sub[j] := rfl
    simp only [e1, r1]
    refine ⟨by omega, hx, hy, hxy, ?_⟩
    refine YCD.of (R := R_rInv) rfl [LLI false false t, eN .i64 x] _ ⟨t, _, G.s, hn, hx, rfl, rfl⟩ (.cons (cv_LLI ff ff) (.cons (.lit _) .nil)) ?_
    rw [ivr_invs h hx]
    simp only [↓cnd_t, ↓cnd_f, ↓cnf_t, ↓cnf_f, VS, astep, Nat.reduceEqDiff, Nat.reduceAdd, Nat.reduceMul, Nat.reduceLT, Nat.reduceLeDiff, Nat.reduceBEq, Int.reduceLT, reduceCtorEq, decide_true, decide_false, Int.lt_irrefl]
    refine ⟨hix, ?_⟩
    refine YCD.of (R := R_rInv) rfl [LLI false false t, eN .i64 sub[j]] _ ⟨t, _, G.s, hn, hy, rfl, rfl⟩ (.cons (cv_LLI ff ff) (.cons (.lit _) .nil)) ?_
    rw [ivr_invs h hy]
    simp only [↓cnd_t, ↓cnd_f, ↓cnf_t, ↓cnf_f, VS, astep, Nat.reduceEqDiff, Nat.reduceAdd, Nat.reduceMul, Nat.reduceLT, Nat.reduceLeDiff, Nat.reduceBEq, Int.reduceLT, reduceCtorEq, decide_true, decide_false, Int.lt_irrefl, List.length_cons, List.length_nil]
    have e2 : gt (gt t (gt (invs t) x)) (gt (invs t) sub[j]) = pd t (gt (invs t) x) (gt (invs t) sub[j]) := rfl
    have e3 : gt (gt t (pd t x sub[j])) (pd t (gt (invs t) x) (gt (invs t) sub[j])) = cm t x sub[j] := cm_eq h hx hy
    simp only [e2, e3, r2, r3]
    refine ⟨hiy, hii, ⟨by omega, by omega⟩, ?_⟩
    refine ih _ ⟨g + 1 + 1 + 1 + 1, (g + 1 + 1, 25), ?_⟩
    unfold gL eR
    rw [List.length_append, hw]
    rfl
def rdl (t : List (List Int)) (sub : List Int) (n : Nat) : List Int := (sub.take n).flatMap fun x => sub.map (cm t x)
theorem rdl_succ (t : List (List Int)) (sub : List Int) {n : Nat} (h : n < sub.length) : rdl t sub (n + 1) = rdl t sub n ++ sub.map (cm t sub[n]) := by unfold rdl; rw [take_succ' h, List.flatMap_append]; simp
theorem rdl_len (t : List (List Int)) (sub : List Int) (n : Nat) (h : n ≤ sub.length) : (rdl t sub n).length = n * sub.length := by
  induction n with
  | zero => simp [rdl]
  | succ n ih => rw [rdl_succ t sub h, List.length_append, ih (by omega), List.length_map, Nat.succ_mul]
theorem rdl_mem {t : List (List Int)} {sub : List Int} {z : Int} : z ∈ rdl t sub sub.length ↔ ∃ x ∈ sub, ∃ y ∈ sub, cm t x y = z := by
  simp [rdl, List.mem_flatMap]
theorem rdl_in {t : List (List Int)} (h : grp t = true) {sub : List Int} (hs : ∀ x ∈ sub, inE t x) {z : Int} (hz : z ∈ rdl t sub sub.length) : inE t z := by
  obtain ⟨x, hx, y, hy, rfl⟩ := rdl_mem.1 hz
  exact cm_in h (hs x hx) (hs y hy)
def R_rDer (args : List AV) (r : AV) : Prop := ∃ (t : List (List Int)) (sub : List Int), grp t = true ∧ sub.length < 2 ^ 19 ∧ (∀ x ∈ sub, inE t x) ∧ args = [LLI false false t, LI false sub] ∧ r = LI true (memP (RGen t (· ∈ rdl t sub sub.length)) t.length)
theorem fk_rDerived : Fk prog ⟨F_ref16_Derived, false, R_rDer⟩ := C.ref16.Derived.fk (es := [⟨F_ref16_Inverse, false, R_rInv⟩, ⟨F_ref14_Generated, false, R_rGenerated⟩]) ⟨fk_rInverse, fk_Generated, trivial⟩ <| by
  rintro _ _ ⟨t, sub, h, hsl, hs, rfl, rfl⟩
  have G := grp_Grp h
  have hn := G.n
  refine ⟨Run.of C.ref16.Derived.top.eq_1 (by simp) ?_, fun _ => fr_LI _⟩
  simp only [↓cnd_t, ↓cnd_f, ↓cnf_t, ↓cnf_f, VS, astep, Nat.reduceEqDiff, Nat.reduceAdd, Nat.reduceMul, Nat.reduceLT, Nat.reduceLeDiff, Nat.reduceBEq, Int.reduceLT, reduceCtorEq, decide_true, decide_false, Int.lt_irrefl, enum, C.ref16.Derived.rs]
  have hlen : ∀ n ≤ sub.length, (rdl t sub n).length < 2 ^ 39 := fun n hle => by
    rw [rdl_len t sub n hle]
    have : n * sub.length ≤ 2 ^ 19 * 2 ^ 19 := Nat.mul_le_mul (by omega) (by omega)
    omega
  refine W.for (n := sub.length) (fun i st => ∃ g gg, st = mk 53 [(0, LLI false false t), (1, LI false sub), (5, .own 0 gg), (10, LI false sub), (11, eN .i64 sub.length), (12, eN .i64 i)] [gL gg (rdl t sub i), none] g) ?_ ?_ (Nat.zero_le _) ⟨_, _, rfl⟩
  · rintro _ ⟨g, gg, rfl⟩
    refine W.go C.ref16.Derived.l0.eq_1 ?_
    simp only [↓cnd_t, ↓cnd_f, ↓cnf_t, ↓cnf_f, VS, astep, Nat.reduceEqDiff, Nat.reduceAdd, Nat.reduceMul, Nat.reduceLT, Nat.reduceLeDiff, Nat.reduceBEq, Int.reduceLT, reduceCtorEq, decide_true, decide_false, Int.lt_irrefl]
    refine YC.of (R := R_rGenerated) (l := false) rfl [LLI false false t, LI false (rdl t sub sub.length)] _ ⟨t, _, G.s, hn, by have := hlen _ (Nat.le_refl _); omega, fun x hx => rdl_in h hs hx, rfl, rfl⟩ (.cons (cv_LLI ff ff) (.cons (cv_oI bk0 ff) .nil)) ?_
    simp only [↓cnd_t, ↓cnd_f, ↓cnf_t, ↓cnf_f, VS, astep, Nat.reduceEqDiff, Nat.reduceAdd, Nat.reduceMul, Nat.reduceLT, Nat.reduceLeDiff, Nat.reduceBEq, Int.reduceLT, reduceCtorEq, decide_true, decide_false, Int.lt_irrefl]
    exact ends_1 (by decide) (cv_LI fun _ => ⟨rfl, rfl⟩)
  · rintro i hi ih _ ⟨g, gg, rfl⟩
    refine W.go C.ref16.Derived.l0.eq_1 ?_
    have hlt := dlt (show (i : Int) < sub.length by omega)
    have hw := wr1 (i := i) (by omega)
    have hgi : gt sub i = sub[i] := gt_nat hi
    simp only [↓cnd_t, ↓cnd_f, ↓cnf_t, ↓cnf_f, VS, astep, Nat.reduceEqDiff, Nat.reduceAdd, Nat.reduceMul, Nat.reduceLT, Nat.reduceLeDiff, Nat.reduceBEq, Int.reduceLT, reduceCtorEq, decide_true, decide_false, Int.lt_irrefl, hlt]
    simp only [hgi]
    refine ⟨by omega, ?_⟩
    refine W.mono (rder_l2 t h sub hs hsl i sub[i] (hs _ (List.getElem_mem hi)) (rdl t sub i) (by have := hlen i (by omega); omega) _ gg) ?_
    rintro _ _ ⟨rfl, g, g0, rfl⟩
    simp only [↓cnd_t, ↓cnd_f, ↓cnf_t, ↓cnf_f, VS, astep, Nat.reduceEqDiff, Nat.reduceAdd, Nat.reduceMul, Nat.reduceLT, Nat.reduceLeDiff, Nat.reduceBEq, Int.reduceLT, reduceCtorEq, decide_true, decide_false, Int.lt_irrefl, hw]
    exact ih _ ⟨_, _, by rw [rdl_succ t sub hi]⟩
theorem fold_der_mem {t : List (List Int)} {z : Int} {sub : List Int} : ∀ {xs l : List Int}, z ∈ xs.foldl (der1 t sub) l ↔ z ∈ l ∨ ∃ x ∈ xs, ∃ y ∈ sub, cm t x y = z
  | [], l => by simp
  | g :: xs, l => by
    rw [List.foldl_cons, fold_der_mem, der1, addsN_mem]
    simp only [List.mem_cons]
    constructor
    · rintro ((h | ⟨y, hy, h⟩) | ⟨x, hx, y, hy, h⟩)
      · exact .inl h
      · exact .inr ⟨g, .inl rfl, y, hy, h⟩
      · exact .inr ⟨x, .inr hx, y, hy, h⟩
    · rintro (h | ⟨x, rfl | hx, y, hy, h⟩)
      · exact .inl (.inl h)
      · exact .inl (.inr ⟨y, hy, h⟩)
      · exact .inr ⟨x, hx, y, hy, h⟩
theorem cm_e {t : List (List Int)} (h : grp t = true) : cm t (ident t) (ident t) = ident t := by
  have G := grp_Grp h
  have he := G.ee
  have hi := invs_in h he
  have h1 : gt (invs t) (ident t) = ident t := by
    have := (iv_spec h he).2.1
    rw [← invs_gt' he, G.l _ hi] at this
    exact this
  rw [cm, h1, G.r _ he, G.r _ he, G.r _ he]
theorem derL_eq {t : List (List Int)} (h : grp t = true) {sub : List Int} (hs : ∀ x ∈ sub, inE t x) (he : ident t ∈ sub) : memP (RGen t (· ∈ rdl t sub sub.length)) t.length = genL t (derL t sub) := by
  have G := grp_Grp h
  rw [genL]
  refine memP_congr fun x => ?_
  rw [RGen_iff G (fun y hy => rdl_in h hs hy) (rdl_mem.2 ⟨_, he, _, he, cm_e h⟩)]
  have hm : ∀ y, y ∈ derL t sub ↔ y ∈ rdl t sub sub.length := fun y => by rw [rdl_mem, derL, fold_der_mem]; simp
  exact ⟨genP_mono fun y hy => (hm y).2 hy, genP_mono fun y hy => (hm y).1 hy⟩
end Go.Proofs.YtbpajecjaoefaaaGreat.V

/- Solvable groups. -/




namespace Go.Proofs.YtbpajecjaoefaaaGreat.V

open Go Go.RowKit Go.Proofs.Tryz

/-- The members of the derived series, without end. -/
noncomputable def dn (t : List (List Int)) : Nat → List Int
  | 0 => iota t.length
  | k + 1 => genL t (derL t (dn t k))
def clsd (t : List (List Int)) (s : List Int) : Prop := ∀ x ∈ s, ∀ y ∈ s, pd t x y ∈ s
theorem iota_mem {t : List (List Int)} {x : Int} : x ∈ iota t.length ↔ inE t x := by
  constructor
  · exact iota_in x
  · intro h
    obtain ⟨k, hk, rfl⟩ := inE_nat h
    simp only [iota, List.mem_map, List.mem_range]
    exact ⟨k, hk, rfl⟩
theorem iota_asc (n : Nat) : (iota n).Pairwise (· < ·) := by
  unfold iota
  rw [List.pairwise_map]
  exact List.pairwise_lt_range.imp (by intro a b h; omega)
theorem genL_mem {t : List (List Int)} {l : List Int} {x : Int} : x ∈ genL t l ↔ inE t x ∧ GenP t (ident t) (· ∈ l) x := by rw [genL, memP_mem]; rfl
theorem genL_in {t : List (List Int)} {l : List Int} : ∀ x ∈ genL t l, inE t x := fun x h => (genL_mem.1 h).1
theorem genL_asc (t : List (List Int)) (l : List Int) : (genL t l).Pairwise (· < ·) := memP_asc _ _
theorem genL_e {t : List (List Int)} (h : grp t = true) (l : List Int) : ident t ∈ genL t l := genL_mem.2 ⟨(grp_Grp h).ee, .one⟩
theorem genL_cl {t : List (List Int)} (h : grp t = true) {l : List Int} (hl : ∀ x ∈ l, inE t x) : clsd t (genL t l) := fun x hx y hy =>
  genL_mem.2 ⟨(grp_Grp h).p (genL_mem.1 hx).1 (genL_mem.1 hy).1, genP_pd (grp_Grp h) hl (genL_mem.1 hx).2 (genL_mem.1 hy).2⟩
theorem genL_le {t : List (List Int)} {l s : List Int} (he : ident t ∈ s) (hs : clsd t s) (hl : ∀ x ∈ l, x ∈ s) : ∀ x ∈ genL t l, x ∈ s := by
  intro x hx
  have h := (genL_mem.1 hx).2
  clear hx
  induction h with
  | one => exact he
  | mul _ hy ih => exact hs _ ih _ (hl _ hy)
theorem pw_cl {t : List (List Int)} {s : List Int} (hs : clsd t s) {x : Int} (hx : x ∈ s) : ∀ k, pw t x k ∈ s
  | 0 => hx
  | k + 1 => hs _ (pw_cl hs hx k) _ hx
theorem inv_cl {t : List (List Int)} (h : grp t = true) {s : List Int} (hin : ∀ x ∈ s, inE t x) (hs : clsd t s) {x : Int} (hx : x ∈ s) : gt (invs t) x ∈ s := by
  have G := grp_Grp h
  have hxi := hin x hx
  rw [invs_gt' hxi]
  obtain ⟨k, _, hk⟩ := G.pw_e hxi
  obtain ⟨h1, h2, h3⟩ := iv_spec h hxi
  cases k with
  | zero =>
    have : x = ident t := hk
    have e : iv t x = ident t := G.iu hxi h1 G.ee h2 (by rw [G.r _ hxi]; exact this)
    rw [e, ← this]; exact hx
  | succ k =>
    have e : pd t (pw t x k) x = ident t := hk
    have : iv t x = pw t x k := G.cr hxi h1 (G.pw hxi k) (by rw [h3, e])
    rw [this]; exact pw_cl hs hx k
theorem cm_cl {t : List (List Int)} (h : grp t = true) {s : List Int} (hin : ∀ x ∈ s, inE t x) (hs : clsd t s) {x y : Int} (hx : x ∈ s) (hy : y ∈ s) : cm t x y ∈ s :=
  hs _ (hs _ (hs _ hx _ hy) _ (inv_cl h hin hs hx)) _ (inv_cl h hin hs hy)
theorem derL_mem {t : List (List Int)} {s : List Int} {z : Int} : z ∈ derL t s ↔ ∃ x ∈ s, ∃ y ∈ s, cm t x y = z := by rw [derL, fold_der_mem]; simp
theorem derL_in {t : List (List Int)} (h : grp t = true) {s : List Int} (hin : ∀ x ∈ s, inE t x) : ∀ z ∈ derL t s, inE t z := by
  intro z hz
  obtain ⟨x, hx, y, hy, rfl⟩ := derL_mem.1 hz
  exact cm_in h (hin x hx) (hin y hy)
theorem der_le {t : List (List Int)} (h : grp t = true) {s : List Int} (hin : ∀ x ∈ s, inE t x) (he : ident t ∈ s) (hs : clsd t s) : ∀ x ∈ genL t (derL t s), x ∈ s :=
  genL_le he hs fun z hz => by
    obtain ⟨x, hx, y, hy, rfl⟩ := derL_mem.1 hz
    exact cm_cl h hin hs hx hy
/-- An ascending list within another one of the same length is it. -/
theorem asc_sub : ∀ {l m : List Int}, l.Pairwise (· < ·) → m.Pairwise (· < ·) → (∀ x ∈ l, x ∈ m) → l.length ≤ m.length ∧ (l.length = m.length → l = m)
  | [], m, _, _, _ => ⟨Nat.zero_le _, fun h => (List.eq_nil_of_length_eq_zero h.symm).symm⟩
  | x :: l, [], _, _, h => by have := h x (List.mem_cons_self ..); cases this
  | x :: l, y :: m, hl, hm, h => by
    have hl' := List.pairwise_cons.1 hl
    have hm' := List.pairwise_cons.1 hm
    by_cases hxy : x = y
    · subst hxy
      have ih := asc_sub hl'.2 hm'.2 fun z hz => by
        rcases List.mem_cons.1 (h z (List.mem_cons_of_mem _ hz)) with e | h1
        · subst e; have := hl'.1 z hz; omega
        · exact h1
      exact ⟨by simp only [List.length_cons]; omega, fun e => by rw [ih.2 (by simpa using e)]⟩
    · have hxm : x ∈ m := (List.mem_cons.1 (h x (List.mem_cons_self ..))).resolve_left hxy
      have hyx := hm'.1 x hxm
      have ih := asc_sub hl hm'.2 fun z hz => by
        rcases List.mem_cons.1 (h z hz) with e | h1
        · subst e
          rcases List.mem_cons.1 hz with e | h2
          · exact absurd e.symm hxy
          · have := hl'.1 z h2; omega
        · exact h1
      exact ⟨by have := ih.1; simp only [List.length_cons] at this ⊢; omega, fun e => absurd ih.1 (by simp only [List.length_cons] at e ⊢; omega)⟩
theorem dn_in {t : List (List Int)} (h : grp t = true) : ∀ k, ∀ x ∈ dn t k, inE t x
  | 0 => iota_in
  | k + 1 => genL_in
theorem dn_asc {t : List (List Int)} (h : grp t = true) : ∀ k, (dn t k).Pairwise (· < ·)
  | 0 => iota_asc _
  | k + 1 => genL_asc _ _
section

variable {t : List (List Int)} (h : grp t = true)
include h
theorem dn_e : ∀ k, ident t ∈ dn t k
  | 0 => iota_mem.2 (grp_Grp h).ee
  | k + 1 => genL_e h _
theorem dn_cl : ∀ k, clsd t (dn t k)
  | 0 => fun x hx y hy => iota_mem.2 ((grp_Grp h).p (iota_mem.1 hx) (iota_mem.1 hy))
  | k + 1 => genL_cl h (derL_in h (dn_in h k))
theorem dn_le (k : Nat) : ∀ x ∈ dn t (k + 1), x ∈ dn t k := der_le h (dn_in h k) (dn_e h k) (dn_cl h k)
theorem dn_len (k : Nat) : (dn t (k + 1)).length ≤ (dn t k).length := (asc_sub (dn_asc h _) (dn_asc h _) (dn_le h k)).1
theorem dn_stop {k : Nat} (e : (dn t (k + 1)).length = (dn t k).length) : ∀ j, dn t (k + j) = dn t k
  | 0 => rfl
  | j + 1 => by
    have e1 := (asc_sub (dn_asc h _) (dn_asc h _) (dn_le h k)).2 e
    show genL t (derL t (dn t (k + j))) = _
    rw [dn_stop e j]; exact e1
theorem dn_pos (k : Nat) : 1 ≤ (dn t k).length := List.length_pos_of_mem (dn_e h k)
theorem dn_one {k : Nat} (e : (dn t k).length = 1) (j : Nat) : (dn t (k + j)).length = 1 := by
  have := dn_stop h (k := k) (by have := dn_len h k; have := dn_pos h (k + 1); omega) j
  rw [this, e]
end

-- the program's

theorem sol_l0 {es : List Ent} (t : List (List Int)) (h : grp t = true) : ∀ (m k : Nat), (dn t k).length ≤ m → k + (dn t k).length ≤ t.length → ∀ (g : Nat) (gg : Gen),
    W (ctx (⟨F_group_group_derived, false, R_der⟩ :: es) []) C.group.Solvable.L0 (mk 28 [(3, .ptr 0 gg 0), (5, LI true (dn t k))] [some (.box gg Tgroup_group [LLI false false t, eN .i64 (ident t), LI true (invs t)])] g)
      (fun e s => ((dn t t.length).length = 1 ∧ e = .exit 0 ∧ ∃ g, s = mk 28 [] [none] g) ∨ (¬ (dn t t.length).length = 1 ∧ e = .ret ∧ Ends [.tm 2] (eB false) .ret s)) := by
  intro m
  induction m with
  | zero => intro k hk; have := dn_pos h k; omega
  | succ m ih =>
    intro k hk hkn g gg
    have G := grp_Grp h
    have hn := G.n
    have hp := dn_pos h k
    refine W.go C.group.Solvable.l0.eq_1 ?_
    by_cases h1 : 1 < (dn t k).length
    · have hd : decide ((1 : Int) < (dn t k).length) = true := decide_eq_true (by omega)
      simp only [↓cnd_t, ↓cnd_f, ↓cnf_t, ↓cnf_f, VS, astep, Nat.reduceEqDiff, Nat.reduceAdd, Nat.reduceMul, Nat.reduceLT, Nat.reduceLeDiff, Nat.reduceBEq, Int.reduceLT, reduceCtorEq, decide_true, decide_false, Int.lt_irrefl, hd, List.length_cons, List.length_nil, lv3]
      refine YC.of (R := R_der) rfl [gA_ t, LI false (dn t k)] _ ⟨t, _, h, dn_in h k, by omega, rfl, rfl⟩ (.cons (cv_gB t true) (.cons (cv_LI ff) .nil)) ?_
      have e : genL t (derL t (dn t k)) = dn t (k + 1) := rfl
      rw [e]
      simp only [↓cnd_t, ↓cnd_f, ↓cnf_t, ↓cnf_f, VS, astep, Nat.reduceEqDiff, Nat.reduceAdd, Nat.reduceMul, Nat.reduceLT, Nat.reduceLeDiff, Nat.reduceBEq, Int.reduceLT, reduceCtorEq, decide_true, decide_false, Int.lt_irrefl]
      refine ⟨fun h2 => .inr ⟨fun h3 => ?_, ends_b (by decide) rfl rfl⟩, fun h2 => ?_⟩
      · have := dn_stop h (k := k) (by omega) (t.length - k)
        rw [show k + (t.length - k) = t.length by omega] at this
        rw [this] at h3
        omega
      · have hl := dn_len h k
        have hp' := dn_pos h (k + 1)
        exact ih (k + 1) (by omega) (by omega) _ _
    · have hd : decide ((1 : Int) < (dn t k).length) = false := decide_eq_false (by omega)
      simp only [↓cnd_t, ↓cnd_f, ↓cnf_t, ↓cnf_f, VS, astep, Nat.reduceEqDiff, Nat.reduceAdd, Nat.reduceMul, Nat.reduceLT, Nat.reduceLeDiff, Nat.reduceBEq, Int.reduceLT, reduceCtorEq, decide_true, decide_false, Int.lt_irrefl, hd]
      have := dn_one h (k := k) (by omega) (t.length - k)
      rw [show k + (t.length - k) = t.length by omega] at this
      exact .inl ⟨this, _, rfl⟩
def R_solv (args : List AV) (r : AV) : Prop := ∃ t : List (List Int), t.length < 2 ^ 62 ∧ args = [LLI false false t] ∧ r = eB (grp t && decide ((dn t t.length).length = 1))
theorem fk_Solvable : Fk prog ⟨F_group_Solvable, false, R_solv⟩ := C.group.Solvable.fk (es := [⟨F_group_group_derived, false, R_der⟩, ⟨F_group_of, true, R_of⟩, ⟨F_group_group_all, false, R_all⟩]) ⟨fk_derived, fk_gof, fk_all, trivial⟩ <| by
  rintro _ _ ⟨t, hl, rfl, rfl⟩
  refine ⟨Run.of C.group.Solvable.top.eq_1 (by simp) ?_, fun _ => .lit _⟩
  simp only [↓cnd_t, ↓cnd_f, ↓cnf_t, ↓cnf_f, VS, astep, Nat.reduceEqDiff, Nat.reduceAdd, Nat.reduceMul, Nat.reduceLT, Nat.reduceLeDiff, Nat.reduceBEq, Int.reduceLT, reduceCtorEq, decide_true, decide_false, Int.lt_irrefl, enum, C.group.Solvable.rs]
  refine YC.of (R := R_of) rfl [LLI false false t] _ ⟨t, hl, rfl, rfl⟩ (.cons (cv_LLI ff ff) .nil) ?_
  cases hg : grp t with
  | false =>
    simp only [↓cnd_t, ↓cnd_f, ↓cnf_t, ↓cnf_f, VS, astep, Nat.reduceEqDiff, Nat.reduceAdd, Nat.reduceMul, Nat.reduceLT, Nat.reduceLeDiff, Nat.reduceBEq, Int.reduceLT, reduceCtorEq, decide_true, decide_false, Int.lt_irrefl]
    exact ⟨gvL_ok t, ends_b (by decide) rfl rfl⟩
  | true =>
    have hn := (grp_Grp hg).n
    simp only [↓cnd_t, ↓cnd_f, ↓cnf_t, ↓cnf_f, VS, astep, Nat.reduceEqDiff, Nat.reduceAdd, Nat.reduceMul, Nat.reduceLT, Nat.reduceLeDiff, Nat.reduceBEq, Int.reduceLT, reduceCtorEq, decide_true, decide_false, Int.lt_irrefl, gvL_t hg, List.length_cons, List.length_nil, List.all_cons, List.all_nil, lv3]
    refine YC.of (R := R_all) rfl [gA_ t] _ ⟨t, hn, rfl, rfl⟩ (.cons (cv_gB t true) .nil) ?_
    simp only [↓cnd_t, ↓cnd_f, ↓cnf_t, ↓cnf_f, VS, astep, Nat.reduceEqDiff, Nat.reduceAdd, Nat.reduceMul, Nat.reduceLT, Nat.reduceLeDiff, Nat.reduceBEq, Int.reduceLT, reduceCtorEq, decide_true, decide_false, Int.lt_irrefl]
    refine W.mono (sol_l0 t hg t.length 0 (by show (iota t.length).length ≤ _; rw [iota_len]; exact Nat.le_refl _) (by show 0 + (iota t.length).length ≤ _; rw [iota_len]; omega) _ (1, 5)) ?_
    rintro _ _ (⟨h1, rfl, g, rfl⟩ | ⟨h1, rfl, h2⟩)
    · simp only [↓cnd_t, ↓cnd_f, ↓cnf_t, ↓cnf_f, VS, astep, Nat.reduceEqDiff, Nat.reduceAdd, Nat.reduceMul, Nat.reduceLT, Nat.reduceLeDiff, Nat.reduceBEq, Int.reduceLT, reduceCtorEq, decide_true, decide_false, Int.lt_irrefl]
      exact ends_b (by decide) rfl (decide_eq_true h1).symm
    · simp only [↓cnd_t, ↓cnd_f, ↓cnf_t, ↓cnf_f, VS, astep, Nat.reduceEqDiff, Nat.reduceAdd, Nat.reduceMul, Nat.reduceLT, Nat.reduceLeDiff, Nat.reduceBEq, Int.reduceLT, reduceCtorEq, decide_true, decide_false, Int.lt_irrefl]
      rw [decide_eq_false h1]
      exact h2
-- the reference's

theorem fk_rSolvable : Fk prog ⟨F_ref16_Solvable, false, R_solv⟩ := C.ref16.Solvable.fk (es := [⟨F_ref16_IsGroup, false, R_rgrp⟩, ⟨F_ref16_All, false, R_rAll⟩, ⟨F_ref16_Derived, false, R_rDer⟩]) ⟨fk_rIsGroup, fk_rAll, fk_rDerived, trivial⟩ <| by
  rintro _ _ ⟨t, hl, rfl, rfl⟩
  refine ⟨Run.of C.ref16.Solvable.top.eq_1 (by simp) ?_, fun _ => .lit _⟩
  simp only [↓cnd_t, ↓cnd_f, ↓cnf_t, ↓cnf_f, VS, astep, Nat.reduceEqDiff, Nat.reduceAdd, Nat.reduceMul, Nat.reduceLT, Nat.reduceLeDiff, Nat.reduceBEq, Int.reduceLT, reduceCtorEq, decide_true, decide_false, Int.lt_irrefl, enum, C.ref16.Solvable.rs]
  refine YC.of (R := R_rgrp) rfl [LLI false false t] _ ⟨t, hl, rfl, rfl⟩ (.cons (cv_LLI ff ff) .nil) ?_
  cases hg : grp t with
  | false =>
    simp only [↓cnd_t, ↓cnd_f, ↓cnf_t, ↓cnf_f, VS, astep, Nat.reduceEqDiff, Nat.reduceAdd, Nat.reduceMul, Nat.reduceLT, Nat.reduceLeDiff, Nat.reduceBEq, Int.reduceLT, reduceCtorEq, decide_true, decide_false, Int.lt_irrefl]
    exact ends_b (by decide) rfl rfl
  | true =>
    have hn := (grp_Grp hg).n
    simp only [↓cnd_t, ↓cnd_f, ↓cnf_t, ↓cnf_f, VS, astep, Nat.reduceEqDiff, Nat.reduceAdd, Nat.reduceMul, Nat.reduceLT, Nat.reduceLeDiff, Nat.reduceBEq, Int.reduceLT, reduceCtorEq, decide_true, decide_false, Int.lt_irrefl]
    refine YC.of (R := R_rAll) rfl [LLI false false t] _ ⟨t, hn, rfl, rfl⟩ (.cons (cv_LLI ff ff) .nil) ?_
    simp only [↓cnd_t, ↓cnd_f, ↓cnf_t, ↓cnf_f, VS, astep, Nat.reduceEqDiff, Nat.reduceAdd, Nat.reduceMul, Nat.reduceLT, Nat.reduceLeDiff, Nat.reduceBEq, Int.reduceLT, reduceCtorEq, decide_true, decide_false, Int.lt_irrefl]
    refine W.for (n := t.length) (fun i st => ∃ g, st = mk 22 [(0, LLI false false t), (3, LI true (dn t i)), (4, eN .i64 i)] [] g) ?_ ?_ (Nat.zero_le _) ⟨_, rfl⟩
    · rintro _ ⟨g, rfl⟩
      refine W.go C.ref16.Solvable.l0.eq_1 ?_
      simp only [↓cnd_t, ↓cnd_f, ↓cnf_t, ↓cnf_f, VS, astep, Nat.reduceEqDiff, Nat.reduceAdd, Nat.reduceMul, Nat.reduceLT, Nat.reduceLeDiff, Nat.reduceBEq, Int.reduceLT, reduceCtorEq, decide_true, decide_false, Int.lt_irrefl]
      exact ends_b (by decide) rfl (decide_eq_decide.2 (by omega))
    · rintro i hi ih _ ⟨g, rfl⟩
      refine W.go C.ref16.Solvable.l0.eq_1 ?_
      have hlt := dlt (show (i : Int) < t.length by omega)
      have hw := wr1 (i := i) (by omega)
      have hd : (dn t i).length ≤ t.length := nodup_le ((dn_asc hg i).imp (by intro a b h; omega)) (dn_in hg i)
      simp only [↓cnd_t, ↓cnd_f, ↓cnf_t, ↓cnf_f, VS, astep, Nat.reduceEqDiff, Nat.reduceAdd, Nat.reduceMul, Nat.reduceLT, Nat.reduceLeDiff, Nat.reduceBEq, Int.reduceLT, reduceCtorEq, decide_true, decide_false, Int.lt_irrefl, hlt, hw]
      refine YC.of (R := R_rDer) rfl [LLI false false t, LI false (dn t i)] _ ⟨t, _, hg, by omega, dn_in hg i, rfl, rfl⟩ (.cons (cv_LLI ff ff) (.cons (cv_LI ff) .nil)) ?_
      rw [derL_eq hg (dn_in hg i) (dn_e hg i)]
      simp only [↓cnd_t, ↓cnd_f, ↓cnf_t, ↓cnf_f, VS, astep, Nat.reduceEqDiff, Nat.reduceAdd, Nat.reduceMul, Nat.reduceLT, Nat.reduceLeDiff, Nat.reduceBEq, Int.reduceLT, reduceCtorEq, decide_true, decide_false, Int.lt_irrefl, hw]
      exact ih _ ⟨_, rfl⟩
end Go.Proofs.YtbpajecjaoefaaaGreat.V

/- Sorted sets of sets; simple groups: the reference's list of normal subgroups. -/





namespace Go.Proofs.YtbpajecjaoefaaaGreat.V

open Go Go.RowKit Go.Proofs.Tryz

def lsL (a b : List Int) : Bool := if a.length = b.length then lexL a b else decide (a.length < b.length)
def R_rls (args : List AV) (r : AV) : Prop := ∃ a b : List Int, a.length < 2 ^ 61 ∧ b.length < 2 ^ 61 ∧ args = [LI false a, LI false b] ∧ r = eB (lsL a b)
theorem fk_rless : Fk prog ⟨F_ref16_less, false, R_rls⟩ := C.ref16.less.fk (es := [⟨F_ref03_Less, false, R_Less⟩]) ⟨fq_rLess.fk, trivial⟩ <| by
  rintro _ _ ⟨a, b, ha, hb, rfl, rfl⟩
  refine ⟨Run.of C.ref16.less.top.eq_1 (by simp) ?_, fun _ => .lit _⟩
  simp only [↓cnd_t, ↓cnd_f, ↓cnf_t, ↓cnf_f, VS, astep, Nat.reduceEqDiff, Nat.reduceAdd, Nat.reduceMul, Nat.reduceLT, Nat.reduceLeDiff, Nat.reduceBEq, Int.reduceLT, reduceCtorEq, decide_true, decide_false, Int.lt_irrefl, enum, C.ref16.less.rs]
  refine ⟨fun h => ?_, fun h => ?_⟩
  · refine ends_b (by decide) rfl ?_
    rw [lsL, if_neg (by omega)]; exact decide_eq_decide.2 (by omega)
  · refine YC.of (R := R_Less) rfl [LI false a, LI false b] _ ⟨a, b, ha, hb, rfl, rfl⟩ (.cons (cv_LI ff) (.cons (cv_LI ff) .nil)) ?_
    simp only [↓cnd_t, ↓cnd_f, ↓cnf_t, ↓cnf_f, VS, astep, Nat.reduceEqDiff, Nat.reduceAdd, Nat.reduceMul, Nat.reduceLT, Nat.reduceLeDiff, Nat.reduceBEq, Int.reduceLT, reduceCtorEq, decide_true, decide_false, Int.lt_irrefl]
    refine ends_b (by decide) rfl ?_
    rw [lsL, if_pos (by omega)]
theorem flatMap_c1 {β : Type} {f : β → AV} : ∀ l : List β, l.flatMap (c1 f) = l.map f
  | [] => rfl
  | x :: l => by simp only [List.flatMap_cons, List.map_cons, flatMap_c1 l]; rfl
theorem slc_ite {β : Type} {lab : Bool} {f : β → AV} {l : List β} {lo hi : Int} {M : List (Option Blk)} (h : 0 ≤ lo ∧ lo ≤ hi ∧ hi ≤ l.length) :
    (if 0 ≤ lo ∧ lo ≤ hi ∧ hi ≤ (l.length : Int) then if lo = hi then some (AV.frz lab 1 0 [], M) else some (AV.frz lab 1 (hi.toNat - lo.toNat) (List.take ((hi.toNat - lo.toNat) * 1) (List.drop (lo.toNat * 1) (l.flatMap (c1 f)))), M) else none) =
      some (eL lab 1 (c1 f) ((l.drop lo.toNat).take (hi.toNat - lo.toNat)), M) := by
  rw [if_pos h]
  split
  · rename_i e
    subst e
    rw [Nat.sub_self, List.take_zero]; rfl
  · have : ((l.drop lo.toNat).take (hi.toNat - lo.toNat)).length = hi.toNat - lo.toNat := by simp; omega
    unfold eL
    rw [this, flatMap_c1, flatMap_c1, Nat.mul_one, Nat.mul_one, List.map_take, List.map_drop]
theorem all_LI {b : Bool} : ∀ l : List (List Int), (l.flatMap (c1 (LI b))).all av1 = true
  | [] => rfl
  | x :: l => by rw [List.flatMap_cons, List.all_append, all_LI l]; rfl
theorem app_LLI0 {g g' : Gen} {e : TypeId} {b : Bool} {m : Nat} {l : List (List Int)} (h : m = l.length) (hm : m < 2 ^ 41) : appB (some (.row g e 1 0 [])) g' e 1 24 m (l.flatMap (c1 (LI b))) = some (.row g' e 1 l.length (l.flatMap (c1 (LI b)))) := by
  subst h
  simp only [appB, all_LI, Nat.zero_add, List.nil_append, and_true, true_and]
  rw [if_pos ⟨by omega, by omega⟩]
theorem app_LLI {g g' : Gen} {e : TypeId} {b : Bool} {m n : Nat} {l l' : List (List Int)} (h : m = l.length) (hm : m < 2 ^ 41) (hn : n < 2 ^ 41) : appB (some (.row g e 1 n (l'.flatMap (c1 (LI b))))) g' e 1 24 m (l.flatMap (c1 (LI b))) = some (.row g' e 1 (n + m) ((l' ++ l).flatMap (c1 (LI b)))) := by
  subst h
  simp only [appB, all_LI, and_true, true_and, List.flatMap_append]
  rw [if_pos ⟨by omega, by omega⟩]
/-- The place of a set in a list. -/
def insP (l : List (List Int)) (x : List Int) : Nat → Nat
  | 0 => 0
  | k + 1 => if lsL x (gt l (k : Nat)) then insP l x k else k + 1
theorem insP_le (l : List (List Int)) (x : List Int) : ∀ k, insP l x k ≤ k
  | 0 => Nat.le_refl _
  | k + 1 => by
    rw [insP]
    split
    · have := insP_le l x k; omega
    · exact Nat.le_refl _
def insS (l : List (List Int)) (x : List Int) : List (List Int) :=
  if 0 < insP l x l.length ∧ gt l ((insP l x l.length - 1 : Nat) : Int) = x then l else l.take (insP l x l.length) ++ [x] ++ l.drop (insP l x l.length)
theorem ins_l0 {es : List Ent} (l : List (List Int)) (x : List Int) (hl : l.length < 2 ^ 40) (hs : ∀ y ∈ l, y.length < 2 ^ 61) (hx : x.length < 2 ^ 61) : ∀ (k : Nat) (g : Nat), k ≤ l.length →
    W (ctx (⟨F_ref16_less, false, R_rls⟩ :: es) []) C.ref16.InsertSet.L0 (mk 45 [(0, LLI false false l), (1, LI false x), (5, eN .i64 k)] [none, none] g)
      (fun e s => e = .exit 0 ∧ ∃ g, s = mk 45 [(0, LLI false false l), (1, LI false x), (5, eN .i64 (insP l x k))] [none, none] g) := by
  intro k
  induction k with
  | zero =>
    intro g hk
    refine W.go C.ref16.InsertSet.l0.eq_1 ?_
    simp only [↓cnd_t, ↓cnd_f, ↓cnf_t, ↓cnf_f, VS, astep, Nat.reduceEqDiff, Nat.reduceAdd, Nat.reduceMul, Nat.reduceLT, Nat.reduceLeDiff, Nat.reduceBEq, Int.reduceLT, reduceCtorEq, decide_true, decide_false, Int.lt_irrefl]
    exact ⟨fun h => by omega, fun _ => ⟨_, rfl⟩⟩
  | succ k ih =>
    intro g hk
    refine W.go C.ref16.InsertSet.l0.eq_1 ?_
    have hd : decide ((0 : Int) < ((k + 1 : Nat) : Int)) = true := decide_eq_true (by omega)
    have hw : IntKind.i64.wrap (((k + 1 : Nat) : Int) - 1) = (k : Nat) := by rw [wr_in (by omega) (by omega)]; omega
    simp only [↓cnd_t, ↓cnd_f, ↓cnf_t, ↓cnf_f, VS, astep, Nat.reduceEqDiff, Nat.reduceAdd, Nat.reduceMul, Nat.reduceLT, Nat.reduceLeDiff, Nat.reduceBEq, Int.reduceLT, reduceCtorEq, decide_true, decide_false, Int.lt_irrefl, hd, hw]
    refine ⟨by omega, ?_⟩
    have hgk : gt l (k : Int) = l[k]'(by omega) := gt_nat (by omega)
    refine YC.of (R := R_rls) rfl [LI false x, LI false (gt l (k : Int))] _ ⟨x, _, hx, by rw [hgk]; exact hs _ (List.getElem_mem _), rfl, rfl⟩ (.cons (cv_LI ff) (.cons (cv_LI ff) .nil)) ?_
    simp only [↓cnd_t, ↓cnd_f, ↓cnf_t, ↓cnf_f, VS, astep, Nat.reduceEqDiff, Nat.reduceAdd, Nat.reduceMul, Nat.reduceLT, Nat.reduceLeDiff, Nat.reduceBEq, Int.reduceLT, reduceCtorEq, decide_true, decide_false, Int.lt_irrefl, hw]
    refine ⟨fun h => ?_, fun h => ⟨_, by rw [insP, if_neg (by rw [h]; decide)]⟩⟩
    rw [insP, if_pos h]
    exact ih _ (by omega)
def R_rIns (args : List AV) (r : AV) : Prop := ∃ (l : List (List Int)) (x : List Int), l.length < 2 ^ 40 ∧ (∀ y ∈ l, y.length < 2 ^ 61) ∧ x.length < 2 ^ 61 ∧ args = [LLI false false l, LI false x] ∧ r = LLI false false (insS l x)
theorem fk_rIns : Fk prog ⟨F_ref16_InsertSet, true, R_rIns⟩ := C.ref16.InsertSet.fk (es := [⟨F_ref16_less, false, R_rls⟩, ⟨F_ref03_Same, false, R_Same⟩]) ⟨fk_rless, fk_Same, trivial⟩ <| by
  rintro _ _ ⟨l, x, hl, hs, hx, rfl, rfl⟩
  refine ⟨Run.of C.ref16.InsertSet.top.eq_1 (by simp) ?_, fun h => by cases h⟩
  simp only [↓cnd_t, ↓cnd_f, ↓cnf_t, ↓cnf_f, VS, astep, Nat.reduceEqDiff, Nat.reduceAdd, Nat.reduceMul, Nat.reduceLT, Nat.reduceLeDiff, Nat.reduceBEq, Int.reduceLT, reduceCtorEq, decide_true, decide_false, Int.lt_irrefl, enum, C.ref16.InsertSet.rs]
  refine W.mono (ins_l0 l x hl hs hx l.length _ (Nat.le_refl _)) ?_
  rintro _ _ ⟨rfl, g, rfl⟩
  have hle := insP_le l x l.length
  have fin : ∀ {k : Nat}, insP l x l.length = k → k ≤ l.length := fun h => by omega
  generalize hk : insP l x l.length = k
  have hkl := fin hk
  have new : ¬ (0 < k ∧ gt l ((k - 1 : Nat) : Int) = x) → insS l x = l.take k ++ [x] ++ l.drop k := fun h => by rw [insS, hk, if_neg h]
  simp only [↓cnd_t, ↓cnd_f, ↓cnf_t, ↓cnf_f, VS, astep, Nat.reduceEqDiff, Nat.reduceAdd, Nat.reduceMul, Nat.reduceLT, Nat.reduceLeDiff, Nat.reduceBEq, Int.reduceLT, reduceCtorEq, decide_true, decide_false, Int.lt_irrefl]
  refine ⟨fun h => ?_, fun h => ?_⟩
  · have hw : IntKind.i64.wrap ((k : Int) - 1) = (k - 1 : Nat) := by rw [wr_in (by omega) (by omega)]; omega
    rw [hw]
    refine ⟨by omega, ?_⟩
    refine YC.of (R := R_Same) rfl [LI false (gt l ((k - 1 : Nat) : Int)), LI false x] _ ⟨_, x, by rw [gt_nat (by omega)]; have := hs _ (List.getElem_mem (l := l) (n := k - 1) (by omega)); omega, rfl, rfl⟩ (.cons (cv_LI ff) (.cons (cv_LI ff) .nil)) ?_
    simp only [↓cnd_t, ↓cnd_f, ↓cnf_t, ↓cnf_f, VS, astep, Nat.reduceEqDiff, Nat.reduceAdd, Nat.reduceMul, Nat.reduceLT, Nat.reduceLeDiff, Nat.reduceBEq, Int.reduceLT, reduceCtorEq, decide_true, decide_false, Int.lt_irrefl]
    refine ⟨fun h2 => ?_, fun h2 => ?_⟩
    · refine ends_1 (by decide) ?_
      have e : insS l x = l := by rw [insS, hk, if_pos ⟨by omega, h2⟩]
      rw [e]
      exact cv_LLI ff ff
    · simp only [St.bnd, ↓cnd_t, ↓cnd_f, ↓cnf_t, ↓cnf_f, VS, astep, Nat.reduceEqDiff, Nat.reduceAdd, Nat.reduceMul, Nat.reduceLT, Nat.reduceLeDiff, Nat.reduceBEq, Int.reduceLT, reduceCtorEq, decide_true, decide_false, Int.lt_irrefl]
      rw [slc_ite (f := LI false) ⟨by omega, by omega, by omega⟩]
      have e1 : (l.drop (0 : Int).toNat).take ((k : Int).toNat - (0 : Int).toNat) = l.take k := rfl
      rw [e1]
      have lt : (l.take k).length = k := by rw [List.length_take]; omega
      have ld : (l.drop k).length = l.length - k := List.length_drop
      simp only [↓cnd_t, ↓cnd_f, ↓cnf_t, ↓cnf_f, VS, astep, Nat.reduceEqDiff, Nat.reduceAdd, Nat.reduceMul, Nat.reduceLT, Nat.reduceLeDiff, Nat.reduceBEq, Int.reduceLT, reduceCtorEq, decide_true, decide_false, Int.lt_irrefl]
      simp only [lt]
      rw [app_LLI0 lt.symm (by omega)]
      simp only [↓cnd_t, ↓cnd_f, ↓cnf_t, ↓cnf_f, VS, astep, Nat.reduceEqDiff, Nat.reduceAdd, Nat.reduceMul, Nat.reduceLT, Nat.reduceLeDiff, Nat.reduceBEq, Int.reduceLT, reduceCtorEq, decide_true, decide_false, Int.lt_irrefl, lt, List.length_cons, List.length_nil]
      refine ⟨⟨by omega, by omega⟩, ?_⟩
      simp only [St.bnd, ↓cnd_t, ↓cnd_f, ↓cnf_t, ↓cnf_f, VS, astep, Nat.reduceEqDiff, Nat.reduceAdd, Nat.reduceMul, Nat.reduceLT, Nat.reduceLeDiff, Nat.reduceBEq, Int.reduceLT, reduceCtorEq, decide_true, decide_false, Int.lt_irrefl]
      rw [slc_ite (f := LI false) ⟨by omega, by omega, by omega⟩]
      have e2 : (l.drop (k : Int).toNat).take ((l.length : Int).toNat - (k : Int).toNat) = l.drop k := List.take_of_length_le (by rw [List.length_drop]; show _ ≤ l.length - k; show l.length - k ≤ _; omega)
      rw [e2]
      simp only [↓cnd_t, ↓cnd_f, ↓cnf_t, ↓cnf_f, VS, astep, Nat.reduceEqDiff, Nat.reduceAdd, Nat.reduceMul, Nat.reduceLT, Nat.reduceLeDiff, Nat.reduceBEq, Int.reduceLT, reduceCtorEq, decide_true, decide_false, Int.lt_irrefl]
      simp only [ld]
      refine ⟨⟨by omega, by omega, all_LI _⟩, ?_⟩
      have hn : k + 1 + (l.length - k) = (l.take k ++ [x] ++ l.drop k).length := by rw [List.length_append, List.length_append, lt, ld]; rfl
      rw [hn]
      rw [new (fun h3 => h2 h3.2)]
      exact ends_1 (by decide) (cv_oLI (l := l.take k ++ [x] ++ l.drop k) bk0 ff ff)
  · simp only [St.bnd, ↓cnd_t, ↓cnd_f, ↓cnf_t, ↓cnf_f, VS, astep, Nat.reduceEqDiff, Nat.reduceAdd, Nat.reduceMul, Nat.reduceLT, Nat.reduceLeDiff, Nat.reduceBEq, Int.reduceLT, reduceCtorEq, decide_true, decide_false, Int.lt_irrefl]
    rw [slc_ite (f := LI false) ⟨by omega, by omega, by omega⟩]
    have e1 : (l.drop (0 : Int).toNat).take ((k : Int).toNat - (0 : Int).toNat) = l.take k := rfl
    rw [e1]
    have lt : (l.take k).length = k := by rw [List.length_take]; omega
    have ld : (l.drop k).length = l.length - k := List.length_drop
    simp only [↓cnd_t, ↓cnd_f, ↓cnf_t, ↓cnf_f, VS, astep, Nat.reduceEqDiff, Nat.reduceAdd, Nat.reduceMul, Nat.reduceLT, Nat.reduceLeDiff, Nat.reduceBEq, Int.reduceLT, reduceCtorEq, decide_true, decide_false, Int.lt_irrefl]
    simp only [lt]
    rw [app_LLI0 lt.symm (by omega)]
    simp only [↓cnd_t, ↓cnd_f, ↓cnf_t, ↓cnf_f, VS, astep, Nat.reduceEqDiff, Nat.reduceAdd, Nat.reduceMul, Nat.reduceLT, Nat.reduceLeDiff, Nat.reduceBEq, Int.reduceLT, reduceCtorEq, decide_true, decide_false, Int.lt_irrefl, lt, List.length_cons, List.length_nil]
    refine ⟨⟨by omega, by omega⟩, ?_⟩
    simp only [St.bnd, ↓cnd_t, ↓cnd_f, ↓cnf_t, ↓cnf_f, VS, astep, Nat.reduceEqDiff, Nat.reduceAdd, Nat.reduceMul, Nat.reduceLT, Nat.reduceLeDiff, Nat.reduceBEq, Int.reduceLT, reduceCtorEq, decide_true, decide_false, Int.lt_irrefl]
    rw [slc_ite (f := LI false) ⟨by omega, by omega, by omega⟩]
    have e2 : (l.drop (k : Int).toNat).take ((l.length : Int).toNat - (k : Int).toNat) = l.drop k := List.take_of_length_le (by rw [List.length_drop]; show _ ≤ l.length - k; show l.length - k ≤ _; omega)
    rw [e2]
    simp only [↓cnd_t, ↓cnd_f, ↓cnf_t, ↓cnf_f, VS, astep, Nat.reduceEqDiff, Nat.reduceAdd, Nat.reduceMul, Nat.reduceLT, Nat.reduceLeDiff, Nat.reduceBEq, Int.reduceLT, reduceCtorEq, decide_true, decide_false, Int.lt_irrefl]
    simp only [ld]
    refine ⟨⟨by omega, by omega, all_LI _⟩, ?_⟩
    have hn : k + 1 + (l.length - k) = (l.take k ++ [x] ++ l.drop k).length := by rw [List.length_append, List.length_append, lt, ld]; rfl
    rw [hn]
    rw [new (fun h3 => h (by omega))]
    exact ends_1 (by decide) (cv_oLI (l := l.take k ++ [x] ++ l.drop k) bk0 ff ff)
end Go.Proofs.YtbpajecjaoefaaaGreat.V

/- The reference's list of normal subgroups: the walk. -/




namespace Go.Proofs.YtbpajecjaoefaaaGreat.V

open Go Go.RowKit Go.Proofs.Tryz

theorem insS_len (l : List (List Int)) (x : List Int) : l.length ≤ (insS l x).length ∧ (insS l x).length ≤ l.length + 1 := by
  unfold insS
  split
  · omega
  · have := insP_le l x l.length
    simp; omega
theorem insS_mem {l : List (List Int)} {x y : List Int} : y ∈ insS l x ↔ y ∈ l ∨ y = x := by
  have hle := insP_le l x l.length
  unfold insS
  split
  · rename_i h
    have : x ∈ l := by rw [← h.2, gt_nat (by omega)]; exact List.getElem_mem _
    exact ⟨.inl, fun h => h.elim id fun e => by subst e; exact this⟩
  · have e := List.take_append_drop (insP l x l.length) l
    constructor
    · intro h
      simp only [List.mem_append, List.mem_singleton] at h
      rcases h with (h | h) | h
      · exact .inl (List.mem_of_mem_take h)
      · exact .inr h
      · exact .inl (List.mem_of_mem_drop h)
    · intro h
      simp only [List.mem_append, List.mem_singleton]
      rcases h with h | h
      · rw [← e, List.mem_append] at h
        exact h.elim (fun h => .inl (.inl h)) .inr
      · exact .inl (.inr h)
/-- Closures of elements; joins; the list as it grows. -/
noncomputable def onesN (t : List (List Int)) (m : Nat) : List (List Int) := (List.range m).foldl (fun l (x : Nat) => insS l (cloR t [(x : Int)])) []
noncomputable def jn (t : List (List Int)) (a b : List Int) : List Int := memP (RGen t (· ∈ a ++ b)) t.length
noncomputable def stN (t : List (List Int)) (a : List Int) (l : List (List Int)) (b : List Int) : List (List Int) := if l.length ≤ 2000 then insS l (jn t a b) else l
noncomputable def rwN (t : List (List Int)) (ones l : List (List Int)) (a : List Int) : List (List Int) := ones.foldl (stN t a) l
noncomputable def psN (t : List (List Int)) (ones l : List (List Int)) : List (List Int) := l.foldl (rwN t ones) l
noncomputable def norN (t : List (List Int)) (ones : List (List Int)) : Nat → List (List Int) → List (List Int)
  | 0, l => l
  | f + 1, l => if l.length ≤ 2000 then (if l.length < (psN t ones l).length then norN t ones f (psN t ones l) else psN t ones l) else l
noncomputable def norR (t : List (List Int)) : List (List Int) := norN t (onesN t t.length) 2001 (onesN t t.length)
/-- Lists of sets of elements. -/
def okN (t : List (List Int)) (l : List (List Int)) : Prop := l.length ≤ 2001 ∧ ∀ y ∈ l, (∀ z ∈ y, inE t z) ∧ y.length ≤ 400
theorem memP_le (P : Int → Prop) (n : Nat) : (memP P n).length ≤ n := by
  unfold memP
  rw [List.length_map]
  exact Nat.le_trans (List.length_filter_le ..) (by simp)
theorem memP_ok {t : List (List Int)} (hn : t.length ≤ 400) (P : Int → Prop) : (∀ z ∈ memP P t.length, inE t z) ∧ (memP P t.length).length ≤ 400 :=
  ⟨fun z hz => (memP_mem.1 hz).1, by have := memP_le P t.length; omega⟩
theorem cloR_ok {t : List (List Int)} (hn : t.length ≤ 400) (g : List Int) : (∀ z ∈ cloR t g, inE t z) ∧ (cloR t g).length ≤ 400 := by
  unfold cloR
  split
  · exact memP_ok hn _
  · exact ⟨fun z hz => (by cases hz), by simp⟩
theorem okN_ins {t : List (List Int)} {l : List (List Int)} (h : okN t l) (hl : l.length ≤ 2000) {x : List Int} (hx : (∀ z ∈ x, inE t z) ∧ x.length ≤ 400) : okN t (insS l x) :=
  ⟨by have := (insS_len l x).2; omega, fun y hy => (insS_mem.1 hy).elim (h.2 y) fun e => by subst e; exact hx⟩
theorem onesN_succ (t : List (List Int)) (m : Nat) : onesN t (m + 1) = insS (onesN t m) (cloR t [(m : Int)]) := by simp [onesN, List.range_succ]
theorem onesN_ok {t : List (List Int)} (hn : t.length ≤ 400) : ∀ m ≤ 400, okN t (onesN t m) ∧ (onesN t m).length ≤ m
  | 0, _ => ⟨⟨by simp [onesN], fun y hy => by simp [onesN] at hy⟩, by simp [onesN]⟩
  | m + 1, h => by
    have ih := onesN_ok hn m (by omega)
    rw [onesN_succ]
    exact ⟨okN_ins ih.1 (by have := ih.2; omega) (cloR_ok hn _), by have := (insS_len (onesN t m) (cloR t [(m : Int)])).2; have := ih.2; omega⟩
theorem stN_ok {t : List (List Int)} (hn : t.length ≤ 400) {l : List (List Int)} (h : okN t l) (a b : List Int) : okN t (stN t a l b) := by
  unfold stN
  split
  · exact okN_ins h (by omega) (memP_ok hn _)
  · exact h
theorem rwN_ok {t : List (List Int)} (hn : t.length ≤ 400) (a : List Int) : ∀ (ones : List (List Int)) {l : List (List Int)}, okN t l → okN t (rwN t ones l a)
  | [], l, h => h
  | b :: ones, l, h => rwN_ok hn a ones (stN_ok hn h a b)
theorem psN_ok' {t : List (List Int)} (hn : t.length ≤ 400) (ones : List (List Int)) : ∀ (xs : List (List Int)) {l : List (List Int)}, okN t l → okN t (xs.foldl (rwN t ones) l)
  | [], l, h => h
  | a :: xs, l, h => psN_ok' hn ones xs (rwN_ok hn a ones h)
theorem psN_ok {t : List (List Int)} (hn : t.length ≤ 400) (ones : List (List Int)) {l : List (List Int)} (h : okN t l) : okN t (psN t ones l) := psN_ok' hn ones l h
theorem all_I : ∀ l : List Int, (l.flatMap (c1 (eN .i64))).all av1 = true
  | [] => rfl
  | x :: l => by rw [List.flatMap_cons, List.all_append, all_I l]; rfl
theorem app_LI0 {g g' : Gen} {e : TypeId} {m : Nat} {l : List Int} (h : m = l.length) (hm : m < 2 ^ 41) : appB (some (.row g e 1 0 [])) g' e 1 8 m (l.flatMap (c1 (eN .i64))) = some (.row g' e 1 l.length (l.flatMap (c1 (eN .i64)))) := by
  subst h
  simp only [appB, all_I, Nat.zero_add, List.nil_append, and_true, true_and]
  rw [if_pos ⟨by omega, by omega⟩]
abbrev esN : List Ent := [⟨F_ref16_Closure, false, R_rClo⟩, ⟨F_ref16_InsertSet, true, R_rIns⟩, ⟨F_ref14_Generated, false, R_rGenerated⟩]
theorem nor_l6 (t : List (List Int)) (hs : sq t) (hn : t.length ≤ 400) (ones : List (List Int)) (ho : okN t ones) (a : List Int) (ha : (∀ z ∈ a, inE t z) ∧ a.length ≤ 400) (b0 b1 b2 : Bool) (n0 i0 : Nat) (S : List (List Int)) (l0 : List (List Int)) (hl0 : okN t l0) (g : Nat) :
    W (ctx esN []) C.ref16.Normals.L6 (mk 64 [(0, LLI false false t), (3, LLI b0 false ones), (5, LLI b1 false l0), (7, eN .i64 n0), (9, LI false a), (33, LLI b2 false S), (34, eN .i64 S.length), (35, eN .i64 i0), (39, LLI b0 false ones), (40, eN .i64 ones.length), (41, eN .i64 0)] [none, none] g)
      (fun e s => e = .exit 6 ∧ ∃ g b1, s = mk 64 [(0, LLI false false t), (3, LLI b0 false ones), (5, LLI b1 false (rwN t ones l0 a)), (7, eN .i64 n0), (33, LLI b2 false S), (34, eN .i64 S.length), (35, eN .i64 i0)] [none, none] g) := by
  refine W.for (n := ones.length) (fun j st => ∃ g b1, st = mk 64 [(0, LLI false false t), (3, LLI b0 false ones), (5, LLI b1 false (rwN t (ones.take j) l0 a)), (7, eN .i64 n0), (9, LI false a), (33, LLI b2 false S), (34, eN .i64 S.length), (35, eN .i64 i0), (39, LLI b0 false ones), (40, eN .i64 ones.length), (41, eN .i64 j)] [none, none] g) ?_ ?_ (Nat.zero_le _) ⟨_, _, rfl⟩
  · rintro _ ⟨g, b1, rfl⟩
    refine W.go C.ref16.Normals.l6.eq_1 ?_
    rw [List.take_length]
    simp only [↓cnd_t, ↓cnd_f, ↓cnf_t, ↓cnf_f, VS, astep, Nat.reduceEqDiff, Nat.reduceAdd, Nat.reduceMul, Nat.reduceLT, Nat.reduceLeDiff, Nat.reduceBEq, Int.reduceLT, reduceCtorEq, decide_true, decide_false, Int.lt_irrefl]
    exact ⟨_, _, rfl⟩
  · rintro j hj ih _ ⟨g, b1, rfl⟩
    refine W.go C.ref16.Normals.l6.eq_1 ?_
    have hol := ho.1
    have hlt := dlt (show (j : Int) < ones.length by omega)
    have hw := wr1 (i := j) (by omega)
    have hgj : gt ones j = ones[j] := gt_nat hj
    have hb := ho.2 _ (List.getElem_mem hj)
    have hok := rwN_ok hn a (ones.take j) hl0
    have hnext : rwN t (ones.take (j + 1)) l0 a = stN t a (rwN t (ones.take j) l0 a) ones[j] := by unfold rwN; rw [foldl_take_succ hj]
    rw [hnext] at ih
    generalize rwN t (ones.take j) l0 a = l at ih hok ⊢
    simp only [↓cnd_t, ↓cnd_f, ↓cnf_t, ↓cnf_f, VS, astep, Nat.reduceEqDiff, Nat.reduceAdd, Nat.reduceMul, Nat.reduceLT, Nat.reduceLeDiff, Nat.reduceBEq, Int.reduceLT, reduceCtorEq, decide_true, decide_false, Int.lt_irrefl, hlt, hw]
    simp only [hgj]
    refine ⟨by omega, fun h1 => ?_, fun h1 => ih _ ⟨_, _, by rw [stN, if_neg (by omega)]⟩⟩
    rw [app_LI0 rfl (by have := ha.2; omega)]
    simp only [↓cnd_t, ↓cnd_f, ↓cnf_t, ↓cnf_f, VS, astep, Nat.reduceEqDiff, Nat.reduceAdd, Nat.reduceMul, Nat.reduceLT, Nat.reduceLeDiff, Nat.reduceBEq, Int.reduceLT, reduceCtorEq, decide_true, decide_false, Int.lt_irrefl]
    have ha2 := ha.2
    have hb2 := hb.2
    refine ⟨⟨by omega, by omega, all_I _⟩, ?_⟩
    rw [show a.length + ones[j].length = (a ++ ones[j]).length from List.length_append.symm]
    refine YC.of (R := R_rGenerated) (l := false) rfl [LLI false false t, LI false (a ++ ones[j])] _ ⟨t, _, hs, hn, by rw [List.length_append]; omega, fun x hx => (List.mem_append.1 hx).elim (ha.1 x) (hb.1 x), rfl, rfl⟩ (.cons (cv_LLI ff ff) (.cons (cv_oI bk1 ff) .nil)) ?_
    simp only [↓cnd_t, ↓cnd_f, ↓cnf_t, ↓cnf_f, VS, astep, Nat.reduceEqDiff, Nat.reduceAdd, Nat.reduceMul, Nat.reduceLT, Nat.reduceLeDiff, Nat.reduceBEq, Int.reduceLT, reduceCtorEq, decide_true, decide_false, Int.lt_irrefl]
    have ej : memP (RGen t (· ∈ a ++ ones[j])) t.length = jn t a ones[j] := rfl
    rw [ej]
    have hj2 := memP_ok hn (RGen t (· ∈ a ++ ones[j]))
    rw [ej] at hj2
    refine YC.of (R := R_rIns) rfl [LLI false false l, LI false (jn t a ones[j])] _ ⟨l, _, by have := hok.1; omega, fun y hy => by have := (hok.2 y hy).2; omega, by have := hj2.2; omega, rfl, rfl⟩ (.cons (cv_LLI ff ff) (.cons (cv_LI ff) .nil)) ?_
    simp only [↓cnd_t, ↓cnd_f, ↓cnf_t, ↓cnf_f, VS, astep, Nat.reduceEqDiff, Nat.reduceAdd, Nat.reduceMul, Nat.reduceLT, Nat.reduceLeDiff, Nat.reduceBEq, Int.reduceLT, reduceCtorEq, decide_true, decide_false, Int.lt_irrefl, hw]
    exact ih _ ⟨_, false, by rw [stN, if_pos (by omega)]⟩
theorem nor_l4 (t : List (List Int)) (hs : sq t) (hn : t.length ≤ 400) (ones : List (List Int)) (ho : okN t ones) (b0 b1 b2 : Bool) (n0 : Nat) (S : List (List Int)) (hS : okN t S) (g : Nat) :
    W (ctx esN []) C.ref16.Normals.L4 (mk 64 [(0, LLI false false t), (3, LLI b0 false ones), (5, LLI b1 false S), (7, eN .i64 n0), (33, LLI b2 false S), (34, eN .i64 S.length), (35, eN .i64 0)] [none, none] g)
      (fun e s => e = .exit 4 ∧ ∃ g b1, s = mk 64 [(0, LLI false false t), (3, LLI b0 false ones), (5, LLI b1 false (psN t ones S)), (7, eN .i64 n0)] [none, none] g) := by
  refine W.for (n := S.length) (fun j st => ∃ g b1, st = mk 64 [(0, LLI false false t), (3, LLI b0 false ones), (5, LLI b1 false ((S.take j).foldl (rwN t ones) S)), (7, eN .i64 n0), (33, LLI b2 false S), (34, eN .i64 S.length), (35, eN .i64 j)] [none, none] g) ?_ ?_ (Nat.zero_le _) ⟨_, _, rfl⟩
  · rintro _ ⟨g, b1, rfl⟩
    refine W.go C.ref16.Normals.l4.eq_1 ?_
    rw [List.take_length]
    simp only [↓cnd_t, ↓cnd_f, ↓cnf_t, ↓cnf_f, VS, astep, Nat.reduceEqDiff, Nat.reduceAdd, Nat.reduceMul, Nat.reduceLT, Nat.reduceLeDiff, Nat.reduceBEq, Int.reduceLT, reduceCtorEq, decide_true, decide_false, Int.lt_irrefl]
    exact ⟨_, _, rfl⟩
  · rintro j hj ih _ ⟨g, b1, rfl⟩
    refine W.go C.ref16.Normals.l4.eq_1 ?_
    have hol := hS.1
    have hlt := dlt (show (j : Int) < S.length by omega)
    have hw := wr1 (i := j) (by omega)
    have hgj : gt S j = S[j] := gt_nat hj
    have hb := hS.2 _ (List.getElem_mem hj)
    have hok := psN_ok' hn ones (S.take j) hS
    have hnext : (S.take (j + 1)).foldl (rwN t ones) S = rwN t ones ((S.take j).foldl (rwN t ones) S) S[j] := foldl_take_succ hj _
    rw [hnext] at ih
    generalize (S.take j).foldl (rwN t ones) S = l at ih hok ⊢
    simp only [↓cnd_t, ↓cnd_f, ↓cnf_t, ↓cnf_f, VS, astep, Nat.reduceEqDiff, Nat.reduceAdd, Nat.reduceMul, Nat.reduceLT, Nat.reduceLeDiff, Nat.reduceBEq, Int.reduceLT, reduceCtorEq, decide_true, decide_false, Int.lt_irrefl, hlt]
    simp only [hgj]
    refine ⟨by omega, ?_⟩
    refine W.mono (nor_l6 t hs hn ones ho S[j] hb b0 b1 b2 n0 j S l hok _) ?_
    rintro _ _ ⟨rfl, g, b1, rfl⟩
    simp only [↓cnd_t, ↓cnd_f, ↓cnf_t, ↓cnf_f, VS, astep, Nat.reduceEqDiff, Nat.reduceAdd, Nat.reduceMul, Nat.reduceLT, Nat.reduceLeDiff, Nat.reduceBEq, Int.reduceLT, reduceCtorEq, decide_true, decide_false, Int.lt_irrefl, hw]
    exact ih _ ⟨_, _, rfl⟩
theorem nor_l2 (t : List (List Int)) (hs : sq t) (hn : t.length ≤ 400) (ones : List (List Int)) (ho : okN t ones) (b0 : Bool) : ∀ (f : Nat) (l : List (List Int)) (b1 : Bool) (g : Nat), okN t l → 2001 ≤ l.length + f →
    W (ctx esN []) C.ref16.Normals.L2 (mk 64 [(0, LLI false false t), (3, LLI b0 false ones), (5, LLI b1 false l), (6, eB true)] [none, none] g)
      (fun e s => e = .exit 2 ∧ ∃ g b1, s = mk 64 [(5, LLI b1 false (norN t ones f l))] [none, none] g) := by
  have out : ∀ (l : List (List Int)) (b1 b : Bool) (g : Nat), (b = true → 2000 < l.length) → W (ctx esN []) C.ref16.Normals.L2 (mk 64 [(0, LLI false false t), (3, LLI b0 false ones), (5, LLI b1 false l), (6, eB b)] [none, none] g)
      (fun e s => e = .exit 2 ∧ ∃ g b1, s = mk 64 [(5, LLI b1 false l)] [none, none] g) := by
    intro l b1 b g h
    refine W.go C.ref16.Normals.l2.eq_1 ?_
    cases b with
    | false => simp only [↓cnd_t, ↓cnd_f, ↓cnf_t, ↓cnf_f, VS, astep, Nat.reduceEqDiff, Nat.reduceAdd, Nat.reduceMul, Nat.reduceLT, Nat.reduceLeDiff, Nat.reduceBEq, Int.reduceLT, reduceCtorEq, decide_true, decide_false, Int.lt_irrefl]; exact ⟨_, _, rfl⟩
    | true =>
      have := h rfl
      have hd : decide ((l.length : Int) ≤ 2000) = false := decide_eq_false (by omega)
      simp only [↓cnd_t, ↓cnd_f, ↓cnf_t, ↓cnf_f, VS, astep, Nat.reduceEqDiff, Nat.reduceAdd, Nat.reduceMul, Nat.reduceLT, Nat.reduceLeDiff, Nat.reduceBEq, Int.reduceLT, reduceCtorEq, decide_true, decide_false, Int.lt_irrefl, hd]
      exact ⟨_, _, rfl⟩
  intro f
  induction f with
  | zero => intro l b1 g hok hf; exact out l b1 true g fun _ => by omega
  | succ f ih =>
    intro l b1 g hok hf
    by_cases hl : l.length ≤ 2000
    · refine W.go C.ref16.Normals.l2.eq_1 ?_
      have hd : decide ((l.length : Int) ≤ 2000) = true := decide_eq_true (by omega)
      simp only [↓cnd_t, ↓cnd_f, ↓cnf_t, ↓cnf_f, VS, astep, Nat.reduceEqDiff, Nat.reduceAdd, Nat.reduceMul, Nat.reduceLT, Nat.reduceLeDiff, Nat.reduceBEq, Int.reduceLT, reduceCtorEq, decide_true, decide_false, Int.lt_irrefl, hd]
      refine W.mono (nor_l4 t hs hn ones ho b0 b1 b1 l.length l hok _) ?_
      rintro _ _ ⟨rfl, g, b1, rfl⟩
      have hp := psN_ok hn ones hok
      rw [norN, if_pos hl]
      by_cases hg : l.length < (psN t ones l).length
      · have hd2 : decide ((l.length : Int) < (psN t ones l).length) = true := decide_eq_true (by omega)
        rw [if_pos hg]
        simp only [↓cnd_t, ↓cnd_f, ↓cnf_t, ↓cnf_f, VS, astep, Nat.reduceEqDiff, Nat.reduceAdd, Nat.reduceMul, Nat.reduceLT, Nat.reduceLeDiff, Nat.reduceBEq, Int.reduceLT, reduceCtorEq, decide_true, decide_false, Int.lt_irrefl, hd2]
        exact ih _ _ _ hp (by omega)
      · have hd2 : decide ((l.length : Int) < (psN t ones l).length) = false := decide_eq_false (by omega)
        rw [if_neg hg]
        simp only [↓cnd_t, ↓cnd_f, ↓cnf_t, ↓cnf_f, VS, astep, Nat.reduceEqDiff, Nat.reduceAdd, Nat.reduceMul, Nat.reduceLT, Nat.reduceLeDiff, Nat.reduceBEq, Int.reduceLT, reduceCtorEq, decide_true, decide_false, Int.lt_irrefl, hd2]
        exact out _ _ _ _ fun h => by cases h
    · rw [norN, if_neg hl]
      exact out l b1 true g fun _ => by omega
def R_rNor (args : List AV) (r : AV) : Prop := ∃ t : List (List Int), grp t = true ∧ args = [LLI false false t] ∧ r = LLI false false (norR t)
theorem fk_rNormals : Fk prog ⟨F_ref16_Normals, true, R_rNor⟩ := C.ref16.Normals.fk (es := esN) ⟨fk_rClosure, fk_rIns, fk_Generated, trivial⟩ <| by
  rintro _ _ ⟨t, h, rfl, rfl⟩
  have G := grp_Grp h
  have hn := G.n
  refine ⟨Run.of C.ref16.Normals.top.eq_1 (by simp) ?_, fun h => by cases h⟩
  simp only [↓cnd_t, ↓cnd_f, ↓cnf_t, ↓cnf_f, VS, astep, Nat.reduceEqDiff, Nat.reduceAdd, Nat.reduceMul, Nat.reduceLT, Nat.reduceLeDiff, Nat.reduceBEq, Int.reduceLT, reduceCtorEq, decide_true, decide_false, Int.lt_irrefl, enum, C.ref16.Normals.rs]
  refine W.for (n := t.length) (fun i st => ∃ g b, st = mk 64 [(0, LLI false false t), (3, LLI b false (onesN t i)), (13, eN .i64 t.length), (14, eN .i64 i)] [none, none] g) ?_ ?_ (Nat.zero_le _) ⟨_, true, rfl⟩
  · rintro _ ⟨g, b, rfl⟩
    refine W.go C.ref16.Normals.l0.eq_1 ?_
    simp only [↓cnd_t, ↓cnd_f, ↓cnf_t, ↓cnf_f, VS, astep, Nat.reduceEqDiff, Nat.reduceAdd, Nat.reduceMul, Nat.reduceLT, Nat.reduceLeDiff, Nat.reduceBEq, Int.reduceLT, reduceCtorEq, decide_true, decide_false, Int.lt_irrefl]
    have ho := (onesN_ok hn t.length hn).1
    refine W.mono (nor_l2 t G.s hn _ ho b 2001 _ b _ ho (by omega)) ?_
    rintro _ _ ⟨rfl, g, b1, rfl⟩
    simp only [↓cnd_t, ↓cnd_f, ↓cnf_t, ↓cnf_f, VS, astep, Nat.reduceEqDiff, Nat.reduceAdd, Nat.reduceMul, Nat.reduceLT, Nat.reduceLeDiff, Nat.reduceBEq, Int.reduceLT, reduceCtorEq, decide_true, decide_false, Int.lt_irrefl]
    exact ends_1 (by decide) (cv_LLI ff ff)
  · rintro i hi ih _ ⟨g, b, rfl⟩
    refine W.go C.ref16.Normals.l0.eq_1 ?_
    have hlt := dlt (show (i : Int) < t.length by omega)
    have hw := wr1 (i := i) (by omega)
    have ho := onesN_ok hn i (by omega)
    rw [onesN_succ] at ih
    simp only [↓cnd_t, ↓cnd_f, ↓cnf_t, ↓cnf_f, VS, astep, Nat.reduceEqDiff, Nat.reduceAdd, Nat.reduceMul, Nat.reduceLT, Nat.reduceLeDiff, Nat.reduceBEq, Int.reduceLT, reduceCtorEq, decide_true, decide_false, Int.lt_irrefl, hlt]
    have hx : ∀ y ∈ [(i : Int)], inE t y := fun y hy => by rw [List.mem_singleton] at hy; subst hy; exact inE_of hi
    refine YC.of (R := R_rClo) (l := false) rfl [LLI false false t, LI false [(i : Int)]] _ ⟨t, _, h, by simp, hx, rfl, rfl⟩ (.cons (cv_LLI ff ff) (.cons (cv_own (l := [(i : Int)]) rfl bk0 ff fun y _ => Cc.cons (.lit _) .nil) .nil)) ?_
    rw [cloR_eq h hx]
    simp only [↓cnd_t, ↓cnd_f, ↓cnf_t, ↓cnf_f, VS, astep, Nat.reduceEqDiff, Nat.reduceAdd, Nat.reduceMul, Nat.reduceLT, Nat.reduceLeDiff, Nat.reduceBEq, Int.reduceLT, reduceCtorEq, decide_true, decide_false, Int.lt_irrefl]
    have hc := cloR_ok hn [(i : Int)]
    refine YC.of (R := R_rIns) rfl [LLI false false (onesN t i), LI false (cloR t [(i : Int)])] _ ⟨_, _, by have := ho.2; omega, fun y hy => by have := (ho.1.2 y hy).2; omega, by have := hc.2; omega, rfl, rfl⟩ (.cons (cv_LLI ff ff) (.cons (cv_LI ff) .nil)) ?_
    simp only [↓cnd_t, ↓cnd_f, ↓cnf_t, ↓cnf_f, VS, astep, Nat.reduceEqDiff, Nat.reduceAdd, Nat.reduceMul, Nat.reduceLT, Nat.reduceLeDiff, Nat.reduceBEq, Int.reduceLT, reduceCtorEq, decide_true, decide_false, Int.lt_irrefl, hw]
    exact ih _ ⟨_, false, rfl⟩
end Go.Proofs.YtbpajecjaoefaaaGreat.V

/- Simple groups, in plain words: two normal subgroups in the list. -/




namespace Go.Proofs.YtbpajecjaoefaaaGreat.V

open Go Go.RowKit Go.Proofs.Tryz

theorem lsL_irrefl (a : List Int) : lsL a a = false := by rw [lsL, if_pos rfl, lexL_irrefl]
theorem lsL_trans {a b c : List Int} (h1 : lsL a b = true) (h2 : lsL b c = true) : lsL a c = true := by
  unfold lsL at *
  split at h1 <;> split at h2
  · rw [if_pos (by omega)]; exact lexL_trans h1 h2
  · have := of_decide_eq_true h2
    rw [if_neg (by omega)]; exact decide_eq_true (by omega)
  · have := of_decide_eq_true h1
    rw [if_neg (by omega)]; exact decide_eq_true (by omega)
  · have := of_decide_eq_true h1
    have := of_decide_eq_true h2
    rw [if_neg (by omega)]; exact decide_eq_true (by omega)
theorem lsL_conn {a b : List Int} (h1 : lsL a b = false) (h2 : lsL b a = false) : a = b := by
  unfold lsL at *
  split at h1
  · rename_i e
    rw [if_pos e.symm] at h2
    exact lexL_conn h1 h2
  · rename_i e
    rw [if_neg (fun h => e h.symm)] at h2
    have := of_decide_eq_false h1
    have := of_decide_eq_false h2
    omega
def sS (l : List (List Int)) : Prop := l.Pairwise fun a b => lsL a b = true
theorem insP_gt {l : List (List Int)} {x : List Int} : ∀ (m j : Nat), j < m → insP l x m ≤ j → lsL x (gt l (j : Int)) = true
  | 0, j, h, _ => by omega
  | m + 1, j, h, hi => by
    rw [insP] at hi
    split at hi
    · rename_i hm
      by_cases e : j = m
      · subst e; exact hm
      · exact insP_gt m j (by omega) hi
    · omega
theorem insP_ng {l : List (List Int)} {x : List Int} : ∀ (m : Nat), 0 < insP l x m → lsL x (gt l ((insP l x m - 1 : Nat) : Int)) = false
  | 0, h => by rw [insP] at h; omega
  | m + 1, h => by
    rw [insP] at h ⊢
    split
    · rename_i hm
      rw [if_pos hm] at h
      exact insP_ng m h
    · rename_i hm
      simpa using hm
theorem insS_sorted {l : List (List Int)} (hl : sS l) (x : List Int) : sS (insS l x) := by
  have hle := insP_le l x l.length
  have hgt := insP_gt (l := l) (x := x) l.length
  have hng := insP_ng (l := l) (x := x) l.length
  unfold insS
  split
  · exact hl
  · rename_i hne
    generalize insP l x l.length = k at *
    have hp := List.pairwise_iff_getElem.1 hl
    have hlt : ∀ a ∈ l.take k, lsL a x = true := by
      intro a ha
      obtain ⟨j, hj, rfl⟩ := List.mem_iff_getElem.1 ha
      rw [List.length_take] at hj
      rw [List.getElem_take]
      have e : gt l ((k - 1 : Nat) : Int) = l[k - 1]'(by omega) := gt_nat (by omega)
      have h1 := hng (by omega)
      have h2 : lsL (l[k - 1]'(by omega)) x = true := by
        cases h3 : lsL (l[k - 1]'(by omega)) x with
        | true => rfl
        | false => rw [e] at h1; exact absurd ⟨by omega, by rw [e]; exact (lsL_conn h1 h3).symm⟩ hne
      by_cases e2 : j = k - 1
      · subst e2; exact h2
      · exact lsL_trans (hp j (k - 1) (by omega) (by omega) (by omega)) h2
    have hgx : ∀ b ∈ l.drop k, lsL x b = true := by
      intro b hb
      obtain ⟨j, hj, rfl⟩ := List.mem_iff_getElem.1 hb
      rw [List.length_drop] at hj
      rw [List.getElem_drop]
      have := hgt (k + j) (by omega) (by omega)
      rwa [gt_nat (by omega)] at this
    unfold sS
    rw [List.pairwise_append, List.pairwise_append]
    refine ⟨⟨List.Pairwise.sublist (List.take_sublist ..) hl, List.pairwise_singleton .., fun a ha b hb => ?_⟩, List.Pairwise.sublist (List.drop_sublist ..) hl, fun a ha b hb => ?_⟩
    · rw [List.mem_singleton] at hb; subst hb; exact hlt a ha
    · rw [List.mem_append, List.mem_singleton] at ha
      rcases ha with ha | rfl
      · exact lsL_trans (hlt a ha) (hgx b hb)
      · exact hgx b hb
theorem sS_nodup {l : List (List Int)} (h : sS l) : l.Nodup := List.Pairwise.imp (by intro a b h e; subst e; rw [lsL_irrefl] at h; cases h) h
theorem mem_out {α : Type} {a : α} {l : List α} (h : a ∈ l) : ∃ m : List α, l.length = m.length + 1 ∧ ∀ y ∈ l, y ≠ a → y ∈ m := by
  obtain ⟨s, t, rfl⟩ := List.append_of_mem h
  refine ⟨s ++ t, by simp; omega, fun y hy hne => ?_⟩
  simp only [List.mem_append, List.mem_cons] at hy ⊢
  rcases hy with hy | hy | hy
  · exact .inl hy
  · exact absurd hy hne
  · exact .inr hy
theorem len_3 {α : Type} {a b c : α} {l : List α} (ha : a ∈ l) (hb : b ∈ l) (hc : c ∈ l) (h1 : b ≠ a) (h2 : c ≠ a) (h3 : c ≠ b) : 3 ≤ l.length := by
  obtain ⟨m, e1, k1⟩ := mem_out ha
  obtain ⟨m2, e2, k2⟩ := mem_out (k1 b hb h1)
  have := List.length_pos_of_mem (k2 c (k1 c hc h2) h3)
  omega
theorem len_2 {α : Type} {a b : α} {l : List α} (ha : a ∈ l) (hb : b ∈ l) (h1 : b ≠ a) : 2 ≤ l.length := by
  obtain ⟨m, e1, k1⟩ := mem_out ha
  have := List.length_pos_of_mem (k1 b hb h1)
  omega
theorem len_le2 {α : Type} {a b : α} {l : List α} (hn : l.Nodup) (h : ∀ y ∈ l, y = a ∨ y = b) : l.length ≤ 2 := by
  match l, hn, h with
  | [], _, _ => simp
  | [x], _, _ => simp
  | [x, y], _, _ => simp
  | x :: y :: z :: r, hn, h =>
    simp only [List.nodup_cons, List.mem_cons, not_or] at hn
    have hx := h x (by simp)
    have hy := h y (by simp)
    have hz := h z (by simp)
    obtain ⟨⟨n1, n2, _⟩, ⟨n3, _⟩, _⟩ := hn
    rcases hx with rfl | rfl <;> rcases hy with rfl | rfl <;> rcases hz with rfl | rfl <;> first | exact absurd rfl n1 | exact absurd rfl n2 | exact absurd rfl n3
theorem len_le1 {α : Type} {a : α} {l : List α} (hn : l.Nodup) (h : ∀ y ∈ l, y = a) : l.length ≤ 1 := by
  match l, hn, h with
  | [], _, _ => simp
  | [x], _, _ => simp
  | x :: y :: r, hn, h =>
    simp only [List.nodup_cons, List.mem_cons, not_or] at hn
    have hx := h x (by simp)
    have hy := h y (by simp)
    exact absurd (hx.trans hy.symm) hn.1.1
/-- What all lists of the search have. -/
structure Nrm (Q : List Int → Prop) (base l : List (List Int)) : Prop where
  so : sS l
  q : ∀ y ∈ l, Q y
  sup : ∀ y ∈ base, y ∈ l
section

variable {t : List (List Int)} {Q : List Int → Prop} (hQ : ∀ a b, Q a → Q b → Q (jn t a b)) {base : List (List Int)}

theorem Nrm.ins {l : List (List Int)} (h : Nrm Q base l) {x : List Int} (hx : Q x) : Nrm Q base (insS l x) :=
  ⟨insS_sorted h.so x, fun y hy => (insS_mem.1 hy).elim (h.q y) fun e => by subst e; exact hx, fun y hy => insS_mem.2 (.inl (h.sup y hy))⟩
include hQ
theorem Nrm.st {l : List (List Int)} (h : Nrm Q base l) {a b : List Int} (ha : Q a) (hb : Q b) : Nrm Q base (stN t a l b) := by
  unfold stN
  split
  · exact h.ins (hQ a b ha hb)
  · exact h
theorem Nrm.rw {a : List Int} (ha : Q a) : ∀ {ones l : List (List Int)}, (∀ y ∈ ones, Q y) → Nrm Q base l → Nrm Q base (rwN t ones l a)
  | [], l, _, h => h
  | b :: ones, l, ho, h => Nrm.rw ha (ones := ones) (fun y hy => ho y (List.mem_cons_of_mem _ hy)) (h.st hQ ha (ho b (List.mem_cons_self ..)))
theorem Nrm.ps' {ones : List (List Int)} (ho : ∀ y ∈ ones, Q y) : ∀ {xs l : List (List Int)}, (∀ y ∈ xs, Q y) → Nrm Q base l → Nrm Q base (xs.foldl (rwN t ones) l)
  | [], l, _, h => h
  | a :: xs, l, hx, h => Nrm.ps' ho (xs := xs) (fun y hy => hx y (List.mem_cons_of_mem _ hy)) (Nrm.rw hQ (hx a (List.mem_cons_self ..)) ho h)
theorem Nrm.nor {ones : List (List Int)} (ho : ∀ y ∈ ones, Q y) : ∀ (f : Nat) {l : List (List Int)}, Nrm Q base l → Nrm Q base (norN t ones f l)
  | 0, l, h => h
  | f + 1, l, h => by
    have h' : Nrm Q base (psN t ones l) := Nrm.ps' hQ ho h.q h
    rw [norN]
    split
    · split
      · exact Nrm.nor ho f h'
      · exact h'
    · exact h
end

theorem onesN_mem {t : List (List Int)} {y : List Int} : ∀ {m : Nat}, y ∈ onesN t m ↔ ∃ x : Nat, x < m ∧ y = cloR t [(x : Int)]
  | 0 => by simp [onesN]
  | m + 1 => by
    rw [onesN_succ, insS_mem, onesN_mem]
    constructor
    · rintro (⟨x, hx, rfl⟩ | rfl)
      · exact ⟨x, by omega, rfl⟩
      · exact ⟨m, by omega, rfl⟩
    · rintro ⟨x, hx, rfl⟩
      by_cases e : x = m
      · subst e; exact .inr rfl
      · exact .inl ⟨x, by omega, rfl⟩
theorem onesN_sorted (t : List (List Int)) : ∀ m, sS (onesN t m)
  | 0 => List.Pairwise.nil
  | m + 1 => by rw [onesN_succ]; exact insS_sorted (onesN_sorted t m) _
theorem norR_nrm {t : List (List Int)} {Q : List Int → Prop} (hQ : ∀ a b, Q a → Q b → Q (jn t a b)) (h : ∀ x : Nat, x < t.length → Q (cloR t [(x : Int)])) : Nrm Q (onesN t t.length) (norR t) := by
  have ho : ∀ y ∈ onesN t t.length, Q y := fun y hy => by obtain ⟨x, hx, rfl⟩ := onesN_mem.1 hy; exact h x hx
  exact Nrm.nor hQ ho _ ⟨onesN_sorted t _, ho, fun y hy => hy⟩
end Go.Proofs.YtbpajecjaoefaaaGreat.V

/- Simple groups; GroupSolves. -/




namespace Go.Proofs.YtbpajecjaoefaaaGreat.V

open Go Go.RowKit Go.Proofs.Tryz

theorem cloF_mem {t : List (List Int)} (h : grp t = true) {x z : Int} : z ∈ cloF t [x] ↔ ∃ k < t.length, cj t x k = z := by
  rw [cloF, fold_clo_mem]; simp
theorem jn_full {t : List (List Int)} (h : grp t = true) {a b : List Int} (hf : a = iota t.length ∨ b = iota t.length) : jn t a b = iota t.length := by
  refine asc_unique (memP_asc _ _) (iota_asc _) fun y => ?_
  rw [jn, memP_mem, iota_mem]
  refine ⟨fun h => h.1, fun hy => ⟨hy, .base ?_⟩⟩
  rw [List.mem_append]
  rcases hf with rfl | rfl
  · exact .inl (iota_mem.2 hy)
  · exact .inr (iota_mem.2 hy)
section

variable {t : List (List Int)} (h : grp t = true)
include h
theorem inv_e : gt (invs t) (ident t) = ident t := by
  have G := grp_Grp h
  have he := G.ee
  have hi := invs_in h he
  have := (iv_spec h he).2.1
  rw [← invs_gt' he, G.l _ hi] at this
  exact this
theorem inv_r {x : Int} (hx : inE t x) : pd t x (gt (invs t) x) = ident t := by rw [invs_gt' hx]; exact (iv_spec h hx).2.1
theorem cloR_1 {x : Int} (hx : inE t x) : cloR t [x] = genL t (cloF t [x]) := by
  rw [cloR, if_pos ⟨h, fun y hy => by rw [List.mem_singleton] at hy; subst hy; exact hx⟩]
theorem clo_e {x : Int} (hx : inE t x) : ident t ∈ cloR t [x] := by rw [cloR_1 h hx]; exact genL_e h _
theorem clo_x {x : Int} (hx : inE t x) : x ∈ cloR t [x] := by
  have G := grp_Grp h
  rw [cloR_1 h hx, genL_mem]
  refine ⟨hx, ?_⟩
  obtain ⟨k, hk, e⟩ := inE_nat G.ee
  have h1 : cj t x k = x := by rw [cj, ← e, G.l _ hx, inv_e h, G.r _ hx]
  have : GenP t (ident t) (· ∈ cloF t [x]) (pd t (ident t) x) := .mul .one ((cloF_mem h).2 ⟨k, hk, h1⟩)
  rwa [G.l _ hx] at this
theorem clo_asc {x : Int} (hx : inE t x) : (cloR t [x]).Pairwise (· < ·) := by rw [cloR_1 h hx]; exact genL_asc _ _
theorem clo_in {x : Int} (hx : inE t x) : ∀ y ∈ cloR t [x], inE t y := by rw [cloR_1 h hx]; exact genL_in
theorem clo_of_e : cloR t [ident t] = [ident t] := by
  have G := grp_Grp h
  refine asc_unique (clo_asc h G.ee) (List.pairwise_singleton ..) fun y => ?_
  rw [List.mem_singleton]
  constructor
  · intro hy
    rw [cloR_1 h G.ee, genL_mem] at hy
    have key : ∀ z, GenP t (ident t) (· ∈ cloF t [ident t]) z → z = ident t := by
      intro z hz
      induction hz with
      | one => rfl
      | mul _ hs ih =>
        obtain ⟨k, hk, e⟩ := (cloF_mem h).1 hs
        have hki : inE t (k : Int) := inE_of hk
        rw [cj, G.r _ hki, inv_r h hki] at e
        rw [ih, ← e, G.r _ G.ee]
    exact key _ hy.2
  · rintro rfl; exact clo_e h G.ee
theorem clo_full {x : Int} (hx : inE t x) (hl : t.length ≤ (cloR t [x]).length) : cloR t [x] = iota t.length := by
  have := asc_sub (clo_asc h hx) (iota_asc t.length) fun y hy => iota_mem.2 (clo_in h hx y hy)
  rw [iota_len] at this
  exact this.2 (by omega)
theorem jn_e : jn t [ident t] [ident t] = [ident t] := by
  have G := grp_Grp h
  refine asc_unique (memP_asc _ _) (List.pairwise_singleton ..) fun y => ?_
  rw [jn, memP_mem, List.mem_singleton]
  constructor
  · rintro ⟨_, hy⟩
    have key : ∀ z, RGen t (· ∈ [ident t] ++ [ident t]) z → z = ident t := by
      intro z hz
      induction hz with
      | base hz => simpa using hz
      | mul _ _ ih ih' => rw [ih, ih', G.r _ G.ee]
    exact key _ hy
  · rintro rfl; exact ⟨G.ee, .base (by simp)⟩
end

/-- Whether a group is simple. -/
def smpAt (t : List (List Int)) (c : Nat → Nat) (x : Nat) : Bool := decide ((x : Int) = ident t) || decide (t.length ≤ c x)
noncomputable def smp (t : List (List Int)) : Bool := !decide (t.length = 1) && (List.range t.length).all (smpAt t fun x => (cloR t [(x : Int)]).length)
theorem smp_iff {t : List (List Int)} (h : grp t = true) : smp t = decide ((norR t).length = 2) := by
  have G := grp_Grp h
  obtain ⟨k, hk, ek⟩ := inE_nat G.ee
  by_cases h1 : t.length = 1
  · have hQ := norR_nrm (t := t) (Q := fun y => y = [ident t]) (fun a b ha hb => by subst ha; subst hb; exact jn_e h) fun x hx => by
      have : (x : Int) = ident t := by rw [ek]; omega
      rw [this]; exact clo_of_e h
    have := len_le1 (sS_nodup hQ.so) hQ.q
    rw [smp, decide_eq_true h1, decide_eq_false (by omega)]; rfl
  · by_cases hs : ∀ x : Nat, x < t.length → (x : Int) = ident t ∨ t.length ≤ (cloR t [(x : Int)]).length
    · have e1 : smp t = true := by
        rw [smp, decide_eq_false h1, Bool.not_false, Bool.true_and, List.all_eq_true]
        intro x hx
        rw [smpAt]
        rcases hs x (List.mem_range.1 hx) with e | e
        · rw [decide_eq_true e]; rfl
        · rw [decide_eq_true e, Bool.or_true]
      have hQ := norR_nrm (t := t) (Q := fun y => y = [ident t] ∨ y = iota t.length) (fun a b ha hb => by
          rcases ha with rfl | rfl
          · rcases hb with rfl | rfl
            · exact .inl (jn_e h)
            · exact .inr (jn_full h (.inr rfl))
          · exact .inr (jn_full h (.inl rfl))) fun x hx => by
        rcases hs x hx with e | e
        · rw [e]; exact .inl (clo_of_e h)
        · exact .inr (clo_full h (inE_of hx) e)
      have hle := len_le2 (sS_nodup hQ.so) hQ.q
      obtain ⟨z, hz, hze⟩ : ∃ z : Nat, z < t.length ∧ (z : Int) ≠ ident t := by
        by_cases hk0 : k = 0
        · exact ⟨1, by omega, by rw [ek]; omega⟩
        · exact ⟨0, by omega, by rw [ek]; omega⟩
      have ha := hQ.sup _ (onesN_mem.2 ⟨k, hk, rfl⟩)
      have hb := hQ.sup _ (onesN_mem.2 ⟨z, hz, rfl⟩)
      rw [← ek, clo_of_e h] at ha
      have hne : cloR t [(z : Int)] ≠ [ident t] := fun e => by
        have := clo_x h (inE_of hz)
        rw [e, List.mem_singleton] at this
        exact hze this
      have := len_2 ha hb hne
      rw [e1, decide_eq_true (by omega)]
    · have hs' : ∃ x : Nat, x < t.length ∧ (x : Int) ≠ ident t ∧ (cloR t [(x : Int)]).length < t.length := by
        refine Classical.byContradiction fun hn => hs fun x hx => ?_
        by_cases e : (x : Int) = ident t
        · exact .inl e
        · exact .inr (Classical.byContradiction fun h2 => hn ⟨x, hx, e, by omega⟩)
      obtain ⟨x, hx, hxe, hxl⟩ := hs'
      have e1 : smp t = false := by
        rw [smp, Bool.and_eq_false_iff, List.all_eq_false]
        refine .inr ⟨x, List.mem_range.2 hx, ?_⟩
        rw [smpAt, decide_eq_false hxe, decide_eq_false (by omega)]; decide
      have hQ := norR_nrm (t := t) (Q := fun _ => True) (fun _ _ _ _ => trivial) fun _ _ => trivial
      have hx' := inE_of hx
      obtain ⟨y, hy, hyn⟩ : ∃ y : Nat, y < t.length ∧ (y : Int) ∉ cloR t [(x : Int)] := by
        refine Classical.byContradiction fun hn => ?_
        have := (asc_sub (iota_asc t.length) (clo_asc h hx') fun z hz => by
          obtain ⟨k, hk, rfl⟩ := inE_nat (iota_mem.1 hz)
          exact Classical.byContradiction fun h2 => hn ⟨k, hk, h2⟩).1
        rw [iota_len] at this
        omega
      have ha := hQ.sup _ (onesN_mem.2 ⟨k, hk, rfl⟩)
      have hb := hQ.sup _ (onesN_mem.2 ⟨x, hx, rfl⟩)
      have hc := hQ.sup _ (onesN_mem.2 ⟨y, hy, rfl⟩)
      rw [← ek, clo_of_e h] at ha
      have n1 : cloR t [(x : Int)] ≠ [ident t] := fun e => by
        have := clo_x h hx'
        rw [e, List.mem_singleton] at this
        exact hxe this
      have n3 : cloR t [(y : Int)] ≠ cloR t [(x : Int)] := fun e => hyn (by rw [← e]; exact clo_x h (inE_of hy))
      have n2 : cloR t [(y : Int)] ≠ [ident t] := fun e => by
        have := clo_x h (inE_of hy)
        rw [e, List.mem_singleton] at this
        exact hyn (by rw [this]; exact clo_e h hx')
      have := len_3 ha hb hc n1 n2 n3
      rw [e1, decide_eq_false (by omega)]
-- the reference's

def R_simp (args : List AV) (r : AV) : Prop := ∃ t : List (List Int), t.length < 2 ^ 62 ∧ args = [LLI false false t] ∧ r = eB (grp t && smp t)
theorem fk_rSimple : Fk prog ⟨F_ref16_Simple, false, R_simp⟩ := C.ref16.Simple.fk (es := [⟨F_ref16_IsGroup, false, R_rgrp⟩, ⟨F_ref16_Normals, true, R_rNor⟩]) ⟨fk_rIsGroup, fk_rNormals, trivial⟩ <| by
  rintro _ _ ⟨t, hl, rfl, rfl⟩
  refine ⟨Run.of C.ref16.Simple.top.eq_1 (by simp) ?_, fun _ => .lit _⟩
  simp only [↓cnd_t, ↓cnd_f, ↓cnf_t, ↓cnf_f, VS, astep, Nat.reduceEqDiff, Nat.reduceAdd, Nat.reduceMul, Nat.reduceLT, Nat.reduceLeDiff, Nat.reduceBEq, Int.reduceLT, reduceCtorEq, decide_true, decide_false, Int.lt_irrefl, enum, C.ref16.Simple.rs]
  refine YC.of (R := R_rgrp) rfl [LLI false false t] _ ⟨t, hl, rfl, rfl⟩ (.cons (cv_LLI ff ff) .nil) ?_
  cases hg : grp t with
  | false =>
    simp only [↓cnd_t, ↓cnd_f, ↓cnf_t, ↓cnf_f, VS, astep, Nat.reduceEqDiff, Nat.reduceAdd, Nat.reduceMul, Nat.reduceLT, Nat.reduceLeDiff, Nat.reduceBEq, Int.reduceLT, reduceCtorEq, decide_true, decide_false, Int.lt_irrefl]
    exact ends_b (by decide) rfl rfl
  | true =>
    simp only [↓cnd_t, ↓cnd_f, ↓cnf_t, ↓cnf_f, VS, astep, Nat.reduceEqDiff, Nat.reduceAdd, Nat.reduceMul, Nat.reduceLT, Nat.reduceLeDiff, Nat.reduceBEq, Int.reduceLT, reduceCtorEq, decide_true, decide_false, Int.lt_irrefl]
    refine YC.of (R := R_rNor) rfl [LLI false false t] _ ⟨t, hg, rfl, rfl⟩ (.cons (cv_LLI ff ff) .nil) ?_
    simp only [↓cnd_t, ↓cnd_f, ↓cnf_t, ↓cnf_f, VS, astep, Nat.reduceEqDiff, Nat.reduceAdd, Nat.reduceMul, Nat.reduceLT, Nat.reduceLeDiff, Nat.reduceBEq, Int.reduceLT, reduceCtorEq, decide_true, decide_false, Int.lt_irrefl]
    refine ends_b (by decide) rfl ?_
    rw [smp_iff hg]
    first | exact decide_eq_decide.2 (by omega) | (rw [Bool.true_and]; exact decide_eq_decide.2 (by omega))
-- the program's

def R_gsimp (args : List AV) (r : AV) : Prop := ∃ t : List (List Int), grp t = true ∧ args = [gA_ t] ∧ r = eB (smp t)
theorem fk_gsimple : Fk prog ⟨F_group_group_simple, false, R_gsimp⟩ := C.group.group.simple.fk (es := [⟨F_group_group_closure, false, R_clo⟩]) ⟨fk_closure, trivial⟩ <| by
  rintro _ _ ⟨t, h, rfl, rfl⟩
  have G := grp_Grp h
  have hn := G.n
  refine ⟨Run.of C.group.group.simple.top.eq_1 (by simp) ?_, fun _ => .lit _⟩
  simp only [↓cnd_t, ↓cnd_f, ↓cnf_t, ↓cnf_f, VS, astep, Nat.reduceEqDiff, Nat.reduceAdd, Nat.reduceMul, Nat.reduceLT, Nat.reduceLeDiff, Nat.reduceBEq, Int.reduceLT, reduceCtorEq, decide_true, decide_false, Int.lt_irrefl, enum, C.group.group.simple.rs, gA_, List.length_cons, List.length_nil]
  refine ⟨fun h1 => ends_b (by decide) rfl ?_, fun h1 => ?_⟩
  · rw [smp, decide_eq_true (by omega)]; rfl
  refine W.for (n := t.length) (fun i st => ∃ g gg, (∀ j < i, smpAt t (fun x => (cloR t [(x : Int)]).length) j = true) ∧ st = mk 30 [(1, .ptr 0 gg 0), (10, eN .i64 t.length), (11, eN .i64 i)] [gB gg t, none] g) ?_ ?_ (Nat.zero_le _) ⟨_, _, fun j hj => by omega, rfl⟩
  · rintro _ ⟨g, gg, hno, rfl⟩
    refine W.go C.group.group.simple.l0.eq_1 ?_
    simp only [↓cnd_t, ↓cnd_f, ↓cnf_t, ↓cnf_f, VS, astep, Nat.reduceEqDiff, Nat.reduceAdd, Nat.reduceMul, Nat.reduceLT, Nat.reduceLeDiff, Nat.reduceBEq, Int.reduceLT, reduceCtorEq, decide_true, decide_false, Int.lt_irrefl]
    refine ends_b (by decide) rfl ?_
    rw [smp, decide_eq_false (by omega), Bool.not_false, Bool.true_and, eq_comm, List.all_eq_true]
    intro x hx
    exact hno x (List.mem_range.1 hx)
  · rintro i hi ih _ ⟨g, gg, hno, rfl⟩
    refine W.go C.group.group.simple.l0.eq_1 ?_
    have hlt := dlt (show (i : Int) < t.length by omega)
    have hw := wr1 (i := i) (by omega)
    simp only [↓cnd_t, ↓cnd_f, ↓cnf_t, ↓cnf_f, VS, astep, Nat.reduceEqDiff, Nat.reduceAdd, Nat.reduceMul, Nat.reduceLT, Nat.reduceLeDiff, Nat.reduceBEq, Int.reduceLT, reduceCtorEq, decide_true, decide_false, Int.lt_irrefl, hlt, hw, List.length_cons, List.length_nil, lv3]
    have hx := inE_of hi
    have e0 : genL t ([(i : Int)].foldl (clo1 t) []) = cloR t [(i : Int)] := (cloR_1 h hx).symm
    have ok : ∀ (b : Bool), smpAt t (fun x => (cloR t [(x : Int)]).length) i = true → ∀ j < i + 1, smpAt t (fun x => (cloR t [(x : Int)]).length) j = true := fun _ h j hj => by
      by_cases hji : j = i
      · subst hji; exact h
      · exact hno j (by omega)
    refine ⟨fun h2 => ?_, fun h2 => ih _ ⟨_, _, ok true (by rw [smpAt, decide_eq_true h2]; rfl), rfl⟩⟩
    refine YCD.of (R := R_clo) (l := false) rfl [gA_ t, LI false [(i : Int)]] _ ⟨t, _, h, fun y hy => by rw [List.mem_singleton] at hy; subst hy; exact hx, by simp, rfl, rfl⟩ (.cons (cv_gB t false) (.cons (cv_own (l := [(i : Int)]) rfl bk1 ff fun y _ => Cc.cons (.lit _) .nil) .nil)) ?_
    rw [e0]
    simp only [↓cnd_t, ↓cnd_f, ↓cnf_t, ↓cnf_f, VS, astep, Nat.reduceEqDiff, Nat.reduceAdd, Nat.reduceMul, Nat.reduceLT, Nat.reduceLeDiff, Nat.reduceBEq, Int.reduceLT, reduceCtorEq, decide_true, decide_false, Int.lt_irrefl, hw, List.length_cons, List.length_nil]
    refine ⟨fun h3 => ends_b (by decide) rfl ?_, fun h3 => ih _ ⟨_, _, ok true (by rw [smpAt, decide_eq_true (p := t.length ≤ _) (by omega), Bool.or_true]), rfl⟩⟩
    symm
    rw [smp, Bool.and_eq_false_iff, List.all_eq_false]
    refine .inr ⟨i, List.mem_range.2 hi, ?_⟩
    rw [smpAt, decide_eq_false h2, decide_eq_false (by omega)]; decide
theorem fk_Simple : Fk prog ⟨F_group_Simple, false, R_simp⟩ := C.group.Simple.fk (es := [⟨F_group_of, true, R_of⟩, ⟨F_group_group_simple, false, R_gsimp⟩]) ⟨fk_gof, fk_gsimple, trivial⟩ <| by
  rintro _ _ ⟨t, hl, rfl, rfl⟩
  refine ⟨Run.of C.group.Simple.top.eq_1 (by simp) ?_, fun _ => .lit _⟩
  simp only [↓cnd_t, ↓cnd_f, ↓cnf_t, ↓cnf_f, VS, astep, Nat.reduceEqDiff, Nat.reduceAdd, Nat.reduceMul, Nat.reduceLT, Nat.reduceLeDiff, Nat.reduceBEq, Int.reduceLT, reduceCtorEq, decide_true, decide_false, Int.lt_irrefl, enum, C.group.Simple.rs]
  refine YC.of (R := R_of) rfl [LLI false false t] _ ⟨t, hl, rfl, rfl⟩ (.cons (cv_LLI ff ff) .nil) ?_
  cases hg : grp t with
  | false =>
    simp only [↓cnd_t, ↓cnd_f, ↓cnf_t, ↓cnf_f, VS, astep, Nat.reduceEqDiff, Nat.reduceAdd, Nat.reduceMul, Nat.reduceLT, Nat.reduceLeDiff, Nat.reduceBEq, Int.reduceLT, reduceCtorEq, decide_true, decide_false, Int.lt_irrefl]
    exact ⟨gvL_ok t, ends_b (by decide) rfl rfl⟩
  | true =>
    simp only [↓cnd_t, ↓cnd_f, ↓cnf_t, ↓cnf_f, VS, astep, Nat.reduceEqDiff, Nat.reduceAdd, Nat.reduceMul, Nat.reduceLT, Nat.reduceLeDiff, Nat.reduceBEq, Int.reduceLT, reduceCtorEq, decide_true, decide_false, Int.lt_irrefl, gvL_t hg, List.length_cons, List.length_nil, List.all_cons, List.all_nil, lv3]
    refine YC.of (R := R_gsimp) rfl [gA_ t] _ ⟨t, hg, rfl, rfl⟩ (.cons (cv_gB t true) .nil) ?_
    simp only [↓cnd_t, ↓cnd_f, ↓cnf_t, ↓cnf_f, VS, astep, Nat.reduceEqDiff, Nat.reduceAdd, Nat.reduceMul, Nat.reduceLT, Nat.reduceLeDiff, Nat.reduceBEq, Int.reduceLT, reduceCtorEq, decide_true, decide_false, Int.lt_irrefl]
    exact ends_b (by decide) rfl rfl
-- the law

def R_LGS (args : List AV) (r : AV) : Prop := ∃ t : List (List Int), t.length < 2 ^ 62 ∧ args = [LLI false false t] ∧ r = eB true
theorem fk_GroupSolves (fk_awake : Fk prog ⟨F_law16_awake, false, fun a r => a = [] ∧ r = eB true⟩) : Fk prog ⟨3, false, R_LGS⟩ := C.law16.GroupSolves.fk (es := [⟨F_law16_large, false, R_large⟩, ⟨F_law16_awake, false, fun a r => a = [] ∧ r = eB true⟩, ⟨F_group_Solvable, false, R_solv⟩, ⟨F_ref16_Solvable, false, R_solv⟩, ⟨F_group_Simple, false, R_simp⟩, ⟨F_ref16_Simple, false, R_simp⟩]) ⟨fk_large, fk_awake, fk_Solvable, fk_rSolvable, fk_Simple, fk_rSimple, trivial⟩ <| by
  rintro _ _ ⟨t, hl, rfl, rfl⟩
  refine ⟨Run.of C.law16.GroupSolves.top.eq_1 (by simp) ?_, fun _ => .lit _⟩
  simp only [↓cnd_t, ↓cnd_f, ↓cnf_t, ↓cnf_f, VS, astep, Nat.reduceEqDiff, Nat.reduceAdd, Nat.reduceMul, Nat.reduceLT, Nat.reduceLeDiff, Nat.reduceBEq, Int.reduceLT, reduceCtorEq, decide_true, decide_false, Int.lt_irrefl, enum, C.law16.GroupSolves.rs]
  have aw : ∀ {c : Cx} {st : St}, c.Γ F_law16_awake = some (false, fun a r => a = [] ∧ r = eB true) → Y c st (some (eB true, st.M)) → YC c st F_law16_awake [] := fun h k => YC.of (R := fun a r => a = [] ∧ r = eB true) h [] _ ⟨rfl, rfl⟩ .nil k
  refine YC.of (R := R_large) rfl [LLI false false t, eN .i64 16] _ ⟨t, 16, hl, rfl, rfl⟩ (.cons (cv_LLI ff ff) (.cons (.lit _) .nil)) ?_
  simp only [↓cnd_t, ↓cnd_f, ↓cnf_t, ↓cnf_f, VS, astep, Nat.reduceEqDiff, Nat.reduceAdd, Nat.reduceMul, Nat.reduceLT, Nat.reduceLeDiff, Nat.reduceBEq, Int.reduceLT, reduceCtorEq, decide_true, decide_false, Int.lt_irrefl]
  refine ⟨fun _ => ?_, fun _ => ?_⟩
  · refine aw ?_ ?_
    · rfl
    simp only [↓cnd_t, ↓cnd_f, ↓cnf_t, ↓cnf_f, VS, astep, Nat.reduceEqDiff, Nat.reduceAdd, Nat.reduceMul, Nat.reduceLT, Nat.reduceLeDiff, Nat.reduceBEq, Int.reduceLT, reduceCtorEq, decide_true, decide_false, Int.lt_irrefl]
    exact ends_b (by decide) rfl rfl
  refine YC.of (R := R_solv) rfl [LLI false false t] _ ⟨t, hl, rfl, rfl⟩ (.cons (cv_LLI ff ff) .nil) ?_
  simp only [↓cnd_t, ↓cnd_f, ↓cnf_t, ↓cnf_f, VS, astep, Nat.reduceEqDiff, Nat.reduceAdd, Nat.reduceMul, Nat.reduceLT, Nat.reduceLeDiff, Nat.reduceBEq, Int.reduceLT, reduceCtorEq, decide_true, decide_false, Int.lt_irrefl]
  refine YC.of (R := R_solv) rfl [LLI false false t] _ ⟨t, hl, rfl, rfl⟩ (.cons (cv_LLI ff ff) .nil) ?_
  simp only [↓cnd_t, ↓cnd_f, ↓cnf_t, ↓cnf_f, VS, astep, Nat.reduceEqDiff, Nat.reduceAdd, Nat.reduceMul, Nat.reduceLT, Nat.reduceLeDiff, Nat.reduceBEq, Int.reduceLT, reduceCtorEq, decide_true, decide_false, Int.lt_irrefl]
  refine YC.of (R := R_simp) rfl [LLI false false t] _ ⟨t, hl, rfl, rfl⟩ (.cons (cv_LLI ff ff) .nil) ?_
  simp only [↓cnd_t, ↓cnd_f, ↓cnf_t, ↓cnf_f, VS, astep, Nat.reduceEqDiff, Nat.reduceAdd, Nat.reduceMul, Nat.reduceLT, Nat.reduceLeDiff, Nat.reduceBEq, Int.reduceLT, reduceCtorEq, decide_true, decide_false, Int.lt_irrefl]
  refine YC.of (R := R_simp) rfl [LLI false false t] _ ⟨t, hl, rfl, rfl⟩ (.cons (cv_LLI ff ff) .nil) ?_
  simp only [↓cnd_t, ↓cnd_f, ↓cnf_t, ↓cnf_f, VS, astep, Nat.reduceEqDiff, Nat.reduceAdd, Nat.reduceMul, Nat.reduceLT, Nat.reduceLeDiff, Nat.reduceBEq, Int.reduceLT, reduceCtorEq, decide_true, decide_false, Int.lt_irrefl]
  refine aw ?_ ?_
  · rfl
  simp only [↓cnd_t, ↓cnd_f, ↓cnf_t, ↓cnf_f, VS, astep, Nat.reduceEqDiff, Nat.reduceAdd, Nat.reduceMul, Nat.reduceLT, Nat.reduceLeDiff, Nat.reduceBEq, Int.reduceLT, reduceCtorEq, decide_true, decide_false, Int.lt_irrefl]
  exact ends_b (by decide) rfl rfl
end Go.Proofs.YtbpajecjaoefaaaGreat.V

/- awake, run. -/




namespace Go.Proofs.YtbpajecjaoefaaaGreat.V

open Go Go.RowKit Go.Sort Go.Proofs.Tryz

noncomputable def fe_inv : FE := ⟨F_group_inverses, false, fnRun [] [] 4000 C.group.inverses.top C.group.inverses.rs 100 1 false⟩
theorem ok_inv : Fk prog fe_inv.ent := C.group.inverses.fkS (es := ([]).map FE.ent) (ss := ([]).map SE.spe) trivial trivial (fun a r h => fnRun_run h)
noncomputable def fe_of : FE := ⟨F_group_of, true, fnRun [fe_Validate, fe_inv] [] 4000 C.group.of.top C.group.of.rs 22 1 true⟩
theorem ok_of : Fk prog fe_of.ent := C.group.of.fkS (es := ([fe_Validate, fe_inv]).map FE.ent) (ss := ([]).map SE.spe) ⟨ok_Validate, ok_inv, trivial⟩ trivial (fun a r h => fnRun_run h)
noncomputable def fe_tab : FE := ⟨F_group_Table, false, fnRun [fe_perms, fe_key, fe_comp] [] 4000 C.group.Table.top C.group.Table.rs 90 3 false⟩
theorem ok_tab : Fk prog fe_tab.ent := C.group.Table.fkS (es := ([fe_perms, fe_key, fe_comp]).map FE.ent) (ss := ([]).map SE.spe) ⟨ok_perms, ok_key, ok_comp, trivial⟩ trivial (fun a r h => fnRun_run h)
noncomputable def fe_three : FE := ⟨F_law16_three, false, fnRun [fe_Gen, fe_tab] [] 4000 C.law16.three.top C.law16.three.rs 18 3 false⟩
theorem ok_three : Fk prog fe_three.ent := C.law16.three.fkS (es := ([fe_Gen, fe_tab]).map FE.ent) (ss := ([]).map SE.spe) ⟨ok_Gen, ok_tab, trivial⟩ trivial (fun a r h => fnRun_run h)
noncomputable def fe_all : FE := ⟨F_group_group_all, false, fnRun [fe_iota] [] 4000 C.group.group.all.top C.group.group.all.rs 7 1 false⟩
theorem ok_all : Fk prog fe_all.ent := C.group.group.all.fkS (es := ([fe_iota]).map FE.ent) (ss := ([]).map SE.spe) ⟨ok_iota, trivial⟩ trivial (fun a r h => fnRun_run h)
noncomputable def fe_gen : FE := ⟨F_group_group_generate, false, fnRun [] [se_ints] 4000 C.group.group.generate.top C.group.group.generate.rs 61 4 false⟩
theorem ok_gen : Fk prog fe_gen.ent := C.group.group.generate.fkS (es := ([]).map FE.ent) (ss := ([se_ints]).map SE.spe) trivial ⟨ok_ints, trivial⟩ (fun a r h => fnRun_run h)
noncomputable def fe_clo : FE := ⟨F_group_group_closure, false, fnRun [fe_gen] [] 4000 C.group.group.closure.top C.group.group.closure.rs 63 4 false⟩
theorem ok_clo : Fk prog fe_clo.ent := C.group.group.closure.fkS (es := ([fe_gen]).map FE.ent) (ss := ([]).map SE.spe) ⟨ok_gen, trivial⟩ trivial (fun a r h => fnRun_run h)
noncomputable def fe_max : FE := ⟨F_group_group_maximal, false, fnRun [fe_clo] [] 4000 C.group.group.maximal.top C.group.group.maximal.rs 32 4 false⟩
theorem ok_max : Fk prog fe_max.ent := C.group.group.maximal.fkS (es := ([fe_clo]).map FE.ent) (ss := ([]).map SE.spe) ⟨ok_clo, trivial⟩ trivial (fun a r h => fnRun_run h)
noncomputable def fe_wth : FE := ⟨F_group_group_within, false, fnRun [fe_inv] [] 4000 C.group.group.within.top C.group.group.within.rs 79 5 false⟩
theorem ok_wth : Fk prog fe_wth.ent := C.group.group.within.fkS (es := ([fe_inv]).map FE.ent) (ss := ([]).map SE.spe) ⟨ok_inv, trivial⟩ trivial (fun a r h => fnRun_run h)
noncomputable def fe_cos : FE := ⟨F_group_group_cosets, false, fnRun [] [] 4000 C.group.group.cosets.top C.group.group.cosets.rs 56 2 false⟩
theorem ok_cos : Fk prog fe_cos.ent := C.group.group.cosets.fkS (es := ([]).map FE.ent) (ss := ([]).map SE.spe) trivial trivial (fun a r h => fnRun_run h)
noncomputable def fe_quo : FE := ⟨F_group_group_quotient, false, fnRun [fe_cos] [] 4000 C.group.group.quotient.top C.group.group.quotient.rs 76 5 false⟩
theorem ok_quo : Fk prog fe_quo.ent := C.group.group.quotient.fkS (es := ([fe_cos]).map FE.ent) (ss := ([]).map SE.spe) ⟨ok_cos, trivial⟩ trivial (fun a r h => fnRun_run h)
noncomputable def fe_sim : FE := ⟨F_group_group_simple, false, fnRun [fe_clo] [] 4000 C.group.group.simple.top C.group.group.simple.rs 30 2 false⟩
theorem ok_sim : Fk prog fe_sim.ent := C.group.group.simple.fkS (es := ([fe_clo]).map FE.ent) (ss := ([]).map SE.spe) ⟨ok_clo, trivial⟩ trivial (fun a r h => fnRun_run h)
noncomputable def fe_Sim : FE := ⟨F_group_Simple, false, fnRun [fe_of, fe_sim] [] 4000 C.group.Simple.top C.group.Simple.rs 15 1 false⟩
theorem ok_Sim : Fk prog fe_Sim.ent := C.group.Simple.fkS (es := ([fe_of, fe_sim]).map FE.ent) (ss := ([]).map SE.spe) ⟨ok_of, ok_sim, trivial⟩ trivial (fun a r h => fnRun_run h)
noncomputable def fe_ser : FE := ⟨F_group_Series, false, fnRun [fe_of, fe_all, fe_wth, fe_max] [] 4000 C.group.Series.top C.group.Series.rs 51 7 false⟩
theorem ok_ser : Fk prog fe_ser.ent := C.group.Series.fkS (es := ([fe_of, fe_all, fe_wth, fe_max]).map FE.ent) (ss := ([]).map SE.spe) ⟨ok_of, ok_all, ok_wth, ok_max, trivial⟩ trivial (fun a r h => fnRun_run h)
abbrev T6 : List (List Int) := [[0, 1, 2, 3, 4, 5], [1, 0, 3, 2, 5, 4], [2, 4, 0, 5, 1, 3], [3, 5, 1, 4, 0, 2], [4, 2, 5, 0, 3, 1], [5, 3, 4, 1, 2, 0]]
def atT (T : List (List Int)) (r : AV) (a : List AV) : Option AV := match a with
  | [x] => match unLLI x with
    | some t => if t = T then some r else none
    | none => none
  | _ => none
theorem atT_some {T : List (List Int)} {r r' : AV} {a : List AV} (h : atT T r a = some r') : a = [LLI false false T] ∧ r' = r := by
  unfold atT at h
  split at h
  · split at h
    · rename_i t e
      split at h
      · rename_i e2; subst e2; injection h with h; exact ⟨by rw [unLLI_some e], h.symm⟩
      · cases h
    · cases h
  · cases h
/-- What was run before. -/
def beqL (f : AV → AV → Bool) : List AV → List AV → Bool
  | [], [] => true
  | x :: xs, y :: ys => f x y && beqL f xs ys
  | _, _ => false
def beqS (ih : AV → AV → Bool) : AV → AV → Bool
  | .lit (.int .i64 a), .lit (.int .i64 b) => decide (a = b)
  | .lit (.bool a), .lit (.bool b) => a == b
  | .frz l k m cs, .frz l' k' m' ds => l == l' && Nat.beq k k' && Nat.beq m m' && beqL ih cs ds
  | .agg cs, .agg ds => beqL ih cs ds
  | _, _ => false
noncomputable def beqV (n : Nat) : AV → AV → Bool := Nat.rec (fun _ _ => false) (fun _ ih => beqS ih) n
theorem beqL_eq {f : AV → AV → Bool} (hf : ∀ x y, f x y = true → x = y) : ∀ {xs ys : List AV}, beqL f xs ys = true → xs = ys
  | [], [], _ => rfl
  | [], _ :: _, h => by cases h
  | _ :: _, [], h => by cases h
  | x :: xs, y :: ys, h => by
    simp only [beqL, Bool.and_eq_true] at h
    rw [hf _ _ h.1, beqL_eq hf h.2]
theorem beqV_eq : ∀ (n : Nat) (x y : AV), beqV n x y = true → x = y := by
  intro n
  induction n with
  | zero => intro x y h; cases h
  | succ n ih =>
    intro x y h
    have h : beqS (beqV n) x y = true := h
    unfold beqS at h
    split at h
    · rw [of_decide_eq_true h]
    · rw [eq_of_beq h]
    · simp only [Bool.and_eq_true, beq_iff_eq] at h
      obtain ⟨⟨⟨h1, h2⟩, h3⟩, h4⟩ := h
      rw [h1, Nat.eq_of_beq_eq_true h2, Nat.eq_of_beq_eq_true h3, beqL_eq ih h4]
    · rw [beqL_eq ih h]
    · cases h
noncomputable def memo (a : List AV) : List (List AV × AV) → Option AV
  | [] => none
  | p :: tbl => match beqL (beqV 12) a p.1 with
    | true => some p.2
    | false => memo a tbl
theorem memo_some {F : List AV → Option AV} {a : List AV} {r : AV} : ∀ {tbl : List (List AV × AV)}, (∀ p ∈ tbl, F p.1 = some p.2) → memo a tbl = some r → F a = some r
  | [], _, h => by cases h
  | p :: tbl, hp, h => by
    simp only [memo] at h
    split at h
    · rename_i e
      injection h with h; subst h
      rw [beqL_eq (beqV_eq 12) e]; exact hp p (List.mem_cons_self ..)
    · exact memo_some (fun q hq => hp q (List.mem_cons_of_mem _ hq)) h
noncomputable def FE.memo (e : FE) (tbl : List (List AV × AV)) : FE := ⟨e.f, e.leak, fun a => V.memo a tbl⟩
theorem ok_memo {P : Program} {e : FE} {tbl : List (List AV × AV)} (h : Fk P e.ent) (ht : ∀ p ∈ tbl, e.F p.1 = some p.2) : Fk P (e.memo tbl).ent :=
  ⟨fun args r hR => h.con args r (memo_some ht hR), h.ent⟩
abbrev T3 : List (List Int) := [[0, 1, 2], [1, 2, 0], [2, 0, 1]]
abbrev gA (l : Bool) (T : List (List Int)) (e : Int) (i : List Int) : AV := .agg [LLI l l T, eN .i64 e, LI l i]
abbrev g6 : AV := .agg [LLI false false T6, eN .i64 0, LI true [0, 1, 2, 4, 3, 5]]
end Go.Proofs.YtbpajecjaoefaaaGreat.V
