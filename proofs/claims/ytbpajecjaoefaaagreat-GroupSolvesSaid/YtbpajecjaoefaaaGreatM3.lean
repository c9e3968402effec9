/- Texts of the machine V and of the proofs over it, one behind the other. -/
import Derived.Test.YtbpajecjaoefaaaGreatM2
import Derived.Test.YtbpajecjaoefaaaGreatShelf
import Derived.Sort.OwnSorted
import Derived.Shelf.GgSortFunc.Tiny
import Derived.Test.YtbpajecjaoefaaaGreatM1
import Derived.Shelf.SlSortFuncK.WholeK
set_option linter.unusedVariables false
set_option linter.unusedSimpArgs false
/- Functions that look alone: tables. -/




namespace Go.Proofs.YtbpajecjaoefaaaGreat.V

open Go Go.RowKit Go.Proofs.Tryz

/-- A table: square, of numbers of its rows. -/
def inr (n : Nat) (row : List Int) : Prop := ∀ x ∈ row, 0 ≤ x ∧ x < n
def sq (t : List (List Int)) : Prop := ∀ row ∈ t, row.length = t.length ∧ inr t.length row
instance (n : Nat) (row : List Int) : Decidable (inr n row) := by unfold inr; exact inferInstance
instance (t : List (List Int)) : Decidable (sq t) := by unfold sq; exact inferInstance
def shp (t : List (List Int)) : Int := if 400 < t.length then 3 else if t.length = 0 then 4 else if sq t then 0 else 4

theorem mult.shape_in {Γ : Ctx} (t : List (List Int)) (row : List Int) (I N : Int) (hl : t.length ≤ 400) (hr : row.length = t.length) {Q : Exit → St → Prop} (hn : ∀ g, ¬ inr t.length row → Q .ret (mk 42 [(2, eN .i64 4)] [] g))
    (hy : ∀ g, inr t.length row → Q (.exit 3) (mk 42 [(0, LLI false false t), (15, LLI false false t), (16, eN .i64 N), (17, eN .i64 I)] [] g)) :
    ∀ (m i g : Nat), i + m = row.length → (∀ x ∈ row.take i, 0 ≤ x ∧ x < t.length) → W Γ C.mult.shape.L3 (mk 42 [(0, LLI false false t), (15, LLI false false t), (16, eN .i64 N), (17, eN .i64 I), (26, LI false row), (27, eN .i64 row.length), (28, eN .i64 i)] [] g) Q := by
  intro m
  induction m with
  | zero =>
    intro i g hi ht
    refine W.go C.mult.shape.l3.eq_1 ?_
    simp only [↓cnd_t, ↓cnd_f, ↓cnf_t, ↓cnf_f, VS, astep, Nat.reduceEqDiff, Nat.reduceAdd, Nat.reduceMul, Nat.reduceLT, Nat.reduceLeDiff, Nat.reduceBEq, Int.reduceLT, reduceCtorEq]
    exact ⟨fun h => by omega, fun _ => hy _ (take_all ht hi)⟩
  | succ m ih =>
    intro i g hi ht
    refine W.go C.mult.shape.l3.eq_1 ?_
    simp only [↓cnd_t, ↓cnd_f, ↓cnf_t, ↓cnf_f, VS, astep, Nat.reduceEqDiff, Nat.reduceAdd, Nat.reduceMul, Nat.reduceLT, Nat.reduceLeDiff, Nat.reduceBEq, Int.reduceLT, reduceCtorEq]
    have hg : gt row i = row[i] := gt_nat (by omega)
    have hm : row[i] ∈ row := List.getElem_mem _
    refine ⟨fun h => ⟨by omega, fun h1 => ⟨fun h2 => hn _ fun hx => by have := hx _ hm; rw [hg] at h2; omega, fun h2 => ?_⟩, fun h1 => hn _ fun hx => by have := hx _ hm; rw [hg] at h1; omega⟩, fun h => by omega⟩
    rw [wr_in (by omega) (by omega)]
    exact ih (i + 1) _ (by omega) (all_take ht (by omega) hg.symm (by omega))
theorem mult.shape_out {Γ : Ctx} (t : List (List Int)) (hl : t.length ≤ 400) {Q : Exit → St → Prop} (hn : ∀ g, ¬ sq t → Q .ret (mk 42 [(2, eN .i64 4)] [] g))
    (hy : ∀ g, sq t → Q (.exit 1) (mk 42 [] [] g)) :
    ∀ (m i g : Nat), i + m = t.length → (∀ row ∈ t.take i, row.length = t.length ∧ inr t.length row) → W Γ C.mult.shape.L1 (mk 42 [(0, LLI false false t), (15, LLI false false t), (16, eN .i64 t.length), (17, eN .i64 i)] [] g) Q := by
  intro m
  induction m with
  | zero =>
    intro i g hi ht
    refine W.go C.mult.shape.l1.eq_1 ?_
    simp only [↓cnd_t, ↓cnd_f, ↓cnf_t, ↓cnf_f, VS, astep, Nat.reduceEqDiff, Nat.reduceAdd, Nat.reduceMul, Nat.reduceLT, Nat.reduceLeDiff, Nat.reduceBEq, Int.reduceLT, reduceCtorEq]
    exact ⟨fun h => by omega, fun _ => hy _ (take_all ht hi)⟩
  | succ m ih =>
    intro i g hi ht
    refine W.go C.mult.shape.l1.eq_1 ?_
    simp only [↓cnd_t, ↓cnd_f, ↓cnf_t, ↓cnf_f, VS, astep, Nat.reduceEqDiff, Nat.reduceAdd, Nat.reduceMul, Nat.reduceLT, Nat.reduceLeDiff, Nat.reduceBEq, Int.reduceLT, reduceCtorEq]
    have hg : gt t i = t[i] := gt_nat (by omega)
    have hm : t[i] ∈ t := List.getElem_mem _
    refine ⟨fun h => ⟨by omega, fun h1 => hn _ fun hx => h1 ?_, fun h1 => ?_⟩, fun h => by omega⟩
    · rw [hg, (hx _ hm).1]
    · have h1' : (gt t i).length = t.length := by omega
      refine mult.shape_in t (gt t i) _ _ hl h1' ?_ ?_ (gt t i).length 0 _ (by omega) (by simp)
      · intro g hb
        simp only [↓cnd_t, ↓cnd_f, ↓cnf_t, ↓cnf_f, VS, astep, Nat.reduceEqDiff, Nat.reduceAdd, Nat.reduceMul, Nat.reduceLT, Nat.reduceLeDiff, Nat.reduceBEq, Int.reduceLT, reduceCtorEq]
        exact hn _ fun hx => hb (by rw [hg]; exact (hx _ hm).2)
      · intro g hb
        simp only [↓cnd_t, ↓cnd_f, ↓cnf_t, ↓cnf_f, VS, astep, Nat.reduceEqDiff, Nat.reduceAdd, Nat.reduceMul, Nat.reduceLT, Nat.reduceLeDiff, Nat.reduceBEq, Int.reduceLT, reduceCtorEq]
        rw [wr_in (by omega) (by omega)]
        exact ih (i + 1) _ (by omega) (all_take ht (by omega) hg.symm ⟨h1', hb⟩)
theorem ref14.Shape_in {Γ : Ctx} (t : List (List Int)) (row : List Int) (I N : Int) (hl : t.length ≤ 400) (hr : row.length = t.length) {Q : Exit → St → Prop} (hn : ∀ g, ¬ inr t.length row → Q .ret (mk 40 [(2, eN .i64 4)] [] g))
    (hy : ∀ g, inr t.length row → Q (.exit 2) (mk 40 [(0, LLI false false t), (13, LLI false false t), (14, eN .i64 N), (15, eN .i64 I)] [] g)) :
    ∀ (m i g : Nat), i + m = row.length → (∀ x ∈ row.take i, 0 ≤ x ∧ x < t.length) → W Γ C.ref14.Shape.L2 (mk 40 [(0, LLI false false t), (13, LLI false false t), (14, eN .i64 N), (15, eN .i64 I), (24, LI false row), (25, eN .i64 row.length), (26, eN .i64 i)] [] g) Q := by
  intro m
  induction m with
  | zero =>
    intro i g hi ht
    refine W.go C.ref14.Shape.l2.eq_1 ?_
    simp only [↓cnd_t, ↓cnd_f, ↓cnf_t, ↓cnf_f, VS, astep, Nat.reduceEqDiff, Nat.reduceAdd, Nat.reduceMul, Nat.reduceLT, Nat.reduceLeDiff, Nat.reduceBEq, Int.reduceLT, reduceCtorEq]
    exact ⟨fun h => by omega, fun _ => hy _ (take_all ht hi)⟩
  | succ m ih =>
    intro i g hi ht
    refine W.go C.ref14.Shape.l2.eq_1 ?_
    simp only [↓cnd_t, ↓cnd_f, ↓cnf_t, ↓cnf_f, VS, astep, Nat.reduceEqDiff, Nat.reduceAdd, Nat.reduceMul, Nat.reduceLT, Nat.reduceLeDiff, Nat.reduceBEq, Int.reduceLT, reduceCtorEq]
    have hg : gt row i = row[i] := gt_nat (by omega)
    have hm : row[i] ∈ row := List.getElem_mem _
    refine ⟨fun h => ⟨by omega, fun h1 => ⟨fun h2 => hn _ fun hx => by have := hx _ hm; rw [hg] at h2; omega, fun h2 => ?_⟩, fun h1 => hn _ fun hx => by have := hx _ hm; rw [hg] at h1; omega⟩, fun h => by omega⟩
    rw [wr_in (by omega) (by omega)]
    exact ih (i + 1) _ (by omega) (all_take ht (by omega) hg.symm (by omega))
theorem ref14.Shape_out {Γ : Ctx} (t : List (List Int)) (hl : t.length ≤ 400) {Q : Exit → St → Prop} (hn : ∀ g, ¬ sq t → Q .ret (mk 40 [(2, eN .i64 4)] [] g))
    (hy : ∀ g, sq t → Q (.exit 0) (mk 40 [] [] g)) :
    ∀ (m i g : Nat), i + m = t.length → (∀ row ∈ t.take i, row.length = t.length ∧ inr t.length row) → W Γ C.ref14.Shape.L0 (mk 40 [(0, LLI false false t), (13, LLI false false t), (14, eN .i64 t.length), (15, eN .i64 i)] [] g) Q := by
  intro m
  induction m with
  | zero =>
    intro i g hi ht
    refine W.go C.ref14.Shape.l0.eq_1 ?_
    simp only [↓cnd_t, ↓cnd_f, ↓cnf_t, ↓cnf_f, VS, astep, Nat.reduceEqDiff, Nat.reduceAdd, Nat.reduceMul, Nat.reduceLT, Nat.reduceLeDiff, Nat.reduceBEq, Int.reduceLT, reduceCtorEq]
    exact ⟨fun h => by omega, fun _ => hy _ (take_all ht hi)⟩
  | succ m ih =>
    intro i g hi ht
    refine W.go C.ref14.Shape.l0.eq_1 ?_
    simp only [↓cnd_t, ↓cnd_f, ↓cnf_t, ↓cnf_f, VS, astep, Nat.reduceEqDiff, Nat.reduceAdd, Nat.reduceMul, Nat.reduceLT, Nat.reduceLeDiff, Nat.reduceBEq, Int.reduceLT, reduceCtorEq]
    have hg : gt t i = t[i] := gt_nat (by omega)
    have hm : t[i] ∈ t := List.getElem_mem _
    refine ⟨fun h => ⟨by omega, fun h1 => hn _ fun hx => h1 ?_, fun h1 => ?_⟩, fun h => by omega⟩
    · rw [hg, (hx _ hm).1]
    · have h1' : (gt t i).length = t.length := by omega
      refine ref14.Shape_in t (gt t i) _ _ hl h1' ?_ ?_ (gt t i).length 0 _ (by omega) (by simp)
      · intro g hb
        simp only [↓cnd_t, ↓cnd_f, ↓cnf_t, ↓cnf_f, VS, astep, Nat.reduceEqDiff, Nat.reduceAdd, Nat.reduceMul, Nat.reduceLT, Nat.reduceLeDiff, Nat.reduceBEq, Int.reduceLT, reduceCtorEq]
        exact hn _ fun hx => hb (by rw [hg]; exact (hx _ hm).2)
      · intro g hb
        simp only [↓cnd_t, ↓cnd_f, ↓cnf_t, ↓cnf_f, VS, astep, Nat.reduceEqDiff, Nat.reduceAdd, Nat.reduceMul, Nat.reduceLT, Nat.reduceLeDiff, Nat.reduceBEq, Int.reduceLT, reduceCtorEq]
        rw [wr_in (by omega) (by omega)]
        exact ih (i + 1) _ (by omega) (all_take ht (by omega) hg.symm ⟨h1', hb⟩)
def R_Shape (args : List AV) (r : AV) : Prop := ∃ t : List (List Int), t.length < 2 ^ 62 ∧ args = [LLI false false t] ∧ r = eN .i64 (shp t)
theorem fk_mult.shape : Fk prog ⟨F_mult_shape, false, R_Shape⟩ := C.mult.shape.fk (es := []) trivial <| by
  rintro _ _ ⟨t, hl, rfl, rfl⟩
  refine ⟨Run.of C.mult.shape.top.eq_1 (by simp) ?_, fun _ => .lit _⟩
  simp only [↓cnd_t, ↓cnd_f, ↓cnf_t, ↓cnf_f, VS, astep, Nat.reduceEqDiff, Nat.reduceAdd, Nat.reduceMul, Nat.reduceLT, Nat.reduceLeDiff, Nat.reduceBEq, Int.reduceLT, reduceCtorEq, enum, C.mult.shape.rs]
  refine ⟨fun h => ends_n (by decide) rfl ?_, fun h => ⟨fun h2 => ends_n (by decide) rfl ?_, fun h2 => ?_⟩⟩
  · rw [shp, if_pos (by omega)]
  · rw [shp, if_neg (by omega), if_pos (by omega)]
  · refine mult.shape_out t (by omega) ?_ ?_ t.length 0 _ (by omega) (by simp)
    · intro g hb
      simp only [↓cnd_t, ↓cnd_f, ↓cnf_t, ↓cnf_f, VS, astep, Nat.reduceEqDiff, Nat.reduceAdd, Nat.reduceMul, Nat.reduceLT, Nat.reduceLeDiff, Nat.reduceBEq, Int.reduceLT, reduceCtorEq]
      refine ends_n (by decide) rfl ?_
      rw [shp, if_neg (by omega), if_neg (by omega), if_neg hb]
    · intro g hb
      simp only [↓cnd_t, ↓cnd_f, ↓cnf_t, ↓cnf_f, VS, astep, Nat.reduceEqDiff, Nat.reduceAdd, Nat.reduceMul, Nat.reduceLT, Nat.reduceLeDiff, Nat.reduceBEq, Int.reduceLT, reduceCtorEq]
      refine ends_n (by decide) rfl ?_
      rw [shp, if_neg (by omega), if_neg (by omega), if_pos hb]
theorem fk_ref14.Shape : Fk prog ⟨F_ref14_Shape, false, R_Shape⟩ := C.ref14.Shape.fk (es := []) trivial <| by
  rintro _ _ ⟨t, hl, rfl, rfl⟩
  refine ⟨Run.of C.ref14.Shape.top.eq_1 (by simp) ?_, fun _ => .lit _⟩
  simp only [↓cnd_t, ↓cnd_f, ↓cnf_t, ↓cnf_f, VS, astep, Nat.reduceEqDiff, Nat.reduceAdd, Nat.reduceMul, Nat.reduceLT, Nat.reduceLeDiff, Nat.reduceBEq, Int.reduceLT, reduceCtorEq, enum, C.ref14.Shape.rs]
  refine ⟨fun h => ends_n (by decide) rfl ?_, fun h => ⟨fun h2 => ends_n (by decide) rfl ?_, fun h2 => ?_⟩⟩
  · rw [shp, if_pos (by omega)]
  · rw [shp, if_neg (by omega), if_pos (by omega)]
  · refine ref14.Shape_out t (by omega) ?_ ?_ t.length 0 _ (by omega) (by simp)
    · intro g hb
      simp only [↓cnd_t, ↓cnd_f, ↓cnf_t, ↓cnf_f, VS, astep, Nat.reduceEqDiff, Nat.reduceAdd, Nat.reduceMul, Nat.reduceLT, Nat.reduceLeDiff, Nat.reduceBEq, Int.reduceLT, reduceCtorEq]
      refine ends_n (by decide) rfl ?_
      rw [shp, if_neg (by omega), if_neg (by omega), if_neg hb]
    · intro g hb
      simp only [↓cnd_t, ↓cnd_f, ↓cnf_t, ↓cnf_f, VS, astep, Nat.reduceEqDiff, Nat.reduceAdd, Nat.reduceMul, Nat.reduceLT, Nat.reduceLeDiff, Nat.reduceBEq, Int.reduceLT, reduceCtorEq]
      refine ends_n (by decide) rfl ?_
      rw [shp, if_neg (by omega), if_neg (by omega), if_pos hb]
end Go.Proofs.YtbpajecjaoefaaaGreat.V

/- Functions that look alone: which tables are associative. -/




namespace Go.Proofs.YtbpajecjaoefaaaGreat.V

open Go Go.RowKit Go.Proofs.Tryz

theorem ends_4 {n g t u v w : Nat} {l : List (Nat × AV)} {M : List (Option Blk)} {x y z q : AV} (h : t < n) (h' : u < n) (h2 : v < n) (h3 : w < n) (hc : Cv ⟨mkT n l, M, g⟩ true true (lk t l) x) (hc' : Cv ⟨mkT n l, M, g⟩ true true (lk u l) y) (hc2 : Cv ⟨mkT n l, M, g⟩ true true (lk v l) z) (hc3 : Cv ⟨mkT n l, M, g⟩ true true (lk w l) q) :
    Ends [.tm t, .tm u, .tm v, .tm w] (.tup [x, y, z, q]) .ret ⟨mkT n l, M, g⟩ := by
  refine ⟨.inl rfl, [lk t l, lk u l, lk v l, lk w l], by rw [rvs_tm h, rvs_tm h', rvs_tm h2, rvs_tm h3, rvs_nil]; rfl, cv_tup ?_⟩
  exact Cc.cons hc (Cc.cons hc' (Cc.cons hc2 (Cc.cons hc3 Cc.nil)))
theorem fr_4 {x y z w : AV} (hx : Fr x) (hy : Fr y) (hz : Fr z) (hw : Fr w) : Fr (.tup [x, y, z, w]) := .tup fun j u hu => by
  match j with
  | 0 => simp at hu; subst hu; exact hx
  | 1 => simp at hu; subst hu; exact hy
  | 2 => simp at hu; subst hu; exact hz
  | 3 => simp at hu; subst hu; exact hw
  | j + 4 => simp at hu
/-- A function of which what it hands back is not told. -/
theorem Run.some {Γ : Ctx} {ac ac' : AC} {rs : List RV} {n ns : Nat} {args : List AV} {P : AV → Prop} (e : ac = ac') (hl : args.length ≤ n) (h : X Γ ac' ⟨mkT n (enum 0 args), List.replicate ns none, 0⟩ [] (fun e st => ∃ r, P r ∧ Ends rs r e st)) : ∃ r, P r ∧ Run Γ ac rs n ns args r := by
  obtain ⟨e, st', h1, r, hp, h2, xs, h3, h4⟩ := W.top e h
  exact ⟨r, hp, e, st', xs, by rw [st0_mk hl]; exact h1, h2, h3, h4⟩

/-- A product. -/
def pd (t : List (List Int)) (x y : Int) : Int := gt (gt t x) y
theorem sq_row {t : List (List Int)} (h : sq t) {x : Int} (h0 : 0 ≤ x) (h1 : x < t.length) : (gt t x).length = t.length ∧ inr t.length (gt t x) := by
  rw [gt_eq h0 h1]; exact h _ (List.getElem_mem _)
theorem sq_pd {t : List (List Int)} (h : sq t) {x y : Int} (h0 : 0 ≤ x) (h1 : x < t.length) (h2 : 0 ≤ y) (h3 : y < t.length) : 0 ≤ pd t x y ∧ pd t x y < t.length := by
  obtain ⟨h4, h5⟩ := sq_row h h0 h1
  unfold pd
  rw [gt_eq h2 (by omega)]
  exact h5 _ (List.getElem_mem _)
def assoc3 (t : List (List Int)) (x y z : Int) : Prop := pd t (pd t x y) z = pd t x (pd t y z)
def assoc (t : List (List Int)) : Prop := ∀ x < t.length, ∀ y < t.length, ∀ z < t.length, assoc3 t x y z
instance (t : List (List Int)) (x y z : Int) : Decidable (assoc3 t x y z) := by unfold assoc3; exact inferInstance
instance (t : List (List Int)) : Decidable (assoc t) := by unfold assoc; exact inferInstance

theorem mult.failing_z {Γ : Ctx} (t : List (List Int)) (hs : sq t) (hl : t.length ≤ 400) (X Y : Nat) (hX : X < t.length) (hY : Y < t.length) {Q : Exit → St → Prop}
    (hn : ∀ g (x y z : Int), ¬ assoc t → Q .ret (mk 57 [(2, eN .i64 x), (3, eN .i64 y), (4, eN .i64 z), (5, (eB true))] [] g))
    (hy : ∀ g, (∀ z < t.length, assoc3 t X Y z) → Q (.exit 4) (mk 57 [(0, LLI false false t), (6, eN .i64 X), (10, eN .i64 t.length), (11, eN .i64 X), (15, eN .i64 t.length), (16, eN .i64 Y)] [] g)) :
    ∀ (m i g : Nat), i + m = t.length → (∀ z < i, assoc3 t X Y z) → W Γ C.mult.failing.L4 (mk 57 [(0, LLI false false t), (6, eN .i64 X), (7, eN .i64 Y), (10, eN .i64 t.length), (11, eN .i64 X), (15, eN .i64 t.length), (16, eN .i64 Y), (20, eN .i64 t.length), (21, eN .i64 i)] [] g) Q := by
  intro m
  induction m with
  | zero =>
    intro i g hi ht
    refine W.go C.mult.failing.l4.eq_1 ?_
    simp only [↓cnd_t, ↓cnd_f, ↓cnf_t, ↓cnf_f, VS, astep, Nat.reduceEqDiff, Nat.reduceAdd, Nat.reduceMul, Nat.reduceLT, Nat.reduceLeDiff, Nat.reduceBEq, Int.reduceLT, reduceCtorEq]
    exact ⟨fun h => by omega, fun _ => hy _ fun z hz => ht z (by omega)⟩
  | succ m ih =>
    intro i g hi ht
    refine W.go C.mult.failing.l4.eq_1 ?_
    simp only [↓cnd_t, ↓cnd_f, ↓cnf_t, ↓cnf_f, VS, astep, Nat.reduceEqDiff, Nat.reduceAdd, Nat.reduceMul, Nat.reduceLT, Nat.reduceLeDiff, Nat.reduceBEq, Int.reduceLT, reduceCtorEq]
    obtain ⟨p1, p2⟩ := sq_pd hs (x := X) (y := Y) (by omega) (by omega) (by omega) (by omega)
    obtain ⟨q1, q2⟩ := sq_pd hs (x := Y) (y := i) (by omega) (by omega) (by omega) (by omega)
    have r1 := (sq_row hs (x := X) (by omega) (by omega)).1
    have r2 := (sq_row hs (x := Y) (by omega) (by omega)).1
    have r3 := (sq_row hs p1 p2).1
    unfold pd at p1 p2 q1 q2 r3
    refine ⟨fun h => ?_, fun h => by omega⟩
    simp only [r1, r2, r3]
    refine ⟨by omega, by omega, by omega, by omega, by omega, by omega, by omega, by omega, ?_, ?_⟩
    · intro hne
      refine hn _ _ _ _ fun ha => hne ?_
      exact ha X hX Y hY i (by omega)
    · intro he
      rw [wr_in (by omega) (by omega)]
      refine ih (i + 1) _ (by omega) fun z hz => ?_
      by_cases hzi : z = i
      · subst hzi; exact he
      · exact ht z (by omega)
theorem mult.failing_y {Γ : Ctx} (t : List (List Int)) (hs : sq t) (hl : t.length ≤ 400) (X : Nat) (hX : X < t.length) {Q : Exit → St → Prop}
    (hn : ∀ g (x y z : Int), ¬ assoc t → Q .ret (mk 57 [(2, eN .i64 x), (3, eN .i64 y), (4, eN .i64 z), (5, (eB true))] [] g))
    (hy : ∀ g, (∀ y < t.length, ∀ z < t.length, assoc3 t X y z) → Q (.exit 2) (mk 57 [(0, LLI false false t), (10, eN .i64 t.length), (11, eN .i64 X)] [] g)) :
    ∀ (m i g : Nat), i + m = t.length → (∀ y < i, ∀ z < t.length, assoc3 t X y z) → W Γ C.mult.failing.L2 (mk 57 [(0, LLI false false t), (6, eN .i64 X), (10, eN .i64 t.length), (11, eN .i64 X), (15, eN .i64 t.length), (16, eN .i64 i)] [] g) Q := by
  intro m
  induction m with
  | zero =>
    intro i g hi ht
    refine W.go C.mult.failing.l2.eq_1 ?_
    simp only [↓cnd_t, ↓cnd_f, ↓cnf_t, ↓cnf_f, VS, astep, Nat.reduceEqDiff, Nat.reduceAdd, Nat.reduceMul, Nat.reduceLT, Nat.reduceLeDiff, Nat.reduceBEq, Int.reduceLT, reduceCtorEq]
    exact ⟨fun h => by omega, fun _ => hy _ fun z hz => ht z (by omega)⟩
  | succ m ih =>
    intro i g hi ht
    refine W.go C.mult.failing.l2.eq_1 ?_
    simp only [↓cnd_t, ↓cnd_f, ↓cnf_t, ↓cnf_f, VS, astep, Nat.reduceEqDiff, Nat.reduceAdd, Nat.reduceMul, Nat.reduceLT, Nat.reduceLeDiff, Nat.reduceBEq, Int.reduceLT, reduceCtorEq]
    refine ⟨fun h => ?_, fun h => by omega⟩
    refine mult.failing_z t hs hl X i hX (by omega) ?_ ?_ t.length 0 _ (by omega) (fun z hz => by omega)
    · intro g x y z hb
      simp only [↓cnd_t, ↓cnd_f, ↓cnf_t, ↓cnf_f, VS, astep, Nat.reduceEqDiff, Nat.reduceAdd, Nat.reduceMul, Nat.reduceLT, Nat.reduceLeDiff, Nat.reduceBEq, Int.reduceLT, reduceCtorEq]
      exact hn _ _ _ _ hb
    · intro g hb
      simp only [↓cnd_t, ↓cnd_f, ↓cnf_t, ↓cnf_f, VS, astep, Nat.reduceEqDiff, Nat.reduceAdd, Nat.reduceMul, Nat.reduceLT, Nat.reduceLeDiff, Nat.reduceBEq, Int.reduceLT, reduceCtorEq]
      rw [wr_in (by omega) (by omega)]
      refine ih (i + 1) _ (by omega) fun y hy' => ?_
      by_cases hyi : y = i
      · subst hyi; exact hb
      · exact ht y (by omega)
theorem mult.failing_x {Γ : Ctx} (t : List (List Int)) (hs : sq t) (hl : t.length ≤ 400) {Q : Exit → St → Prop}
    (hn : ∀ g (x y z : Int), ¬ assoc t → Q .ret (mk 57 [(2, eN .i64 x), (3, eN .i64 y), (4, eN .i64 z), (5, (eB true))] [] g))
    (hy : ∀ g, assoc t → Q (.exit 0) (mk 57 [] [] g)) :
    ∀ (m i g : Nat), i + m = t.length → (∀ x < i, ∀ y < t.length, ∀ z < t.length, assoc3 t x y z) → W Γ C.mult.failing.L0 (mk 57 [(0, LLI false false t), (10, eN .i64 t.length), (11, eN .i64 i)] [] g) Q := by
  intro m
  induction m with
  | zero =>
    intro i g hi ht
    refine W.go C.mult.failing.l0.eq_1 ?_
    simp only [↓cnd_t, ↓cnd_f, ↓cnf_t, ↓cnf_f, VS, astep, Nat.reduceEqDiff, Nat.reduceAdd, Nat.reduceMul, Nat.reduceLT, Nat.reduceLeDiff, Nat.reduceBEq, Int.reduceLT, reduceCtorEq]
    exact ⟨fun h => by omega, fun _ => hy _ fun z hz => ht z (by omega)⟩
  | succ m ih =>
    intro i g hi ht
    refine W.go C.mult.failing.l0.eq_1 ?_
    simp only [↓cnd_t, ↓cnd_f, ↓cnf_t, ↓cnf_f, VS, astep, Nat.reduceEqDiff, Nat.reduceAdd, Nat.reduceMul, Nat.reduceLT, Nat.reduceLeDiff, Nat.reduceBEq, Int.reduceLT, reduceCtorEq]
    refine ⟨fun h => ?_, fun h => by omega⟩
    refine mult.failing_y t hs hl i (by omega) ?_ ?_ t.length 0 _ (by omega) (fun z hz => by omega)
    · intro g x y z hb
      simp only [↓cnd_t, ↓cnd_f, ↓cnf_t, ↓cnf_f, VS, astep, Nat.reduceEqDiff, Nat.reduceAdd, Nat.reduceMul, Nat.reduceLT, Nat.reduceLeDiff, Nat.reduceBEq, Int.reduceLT, reduceCtorEq]
      exact hn _ _ _ _ hb
    · intro g hb
      simp only [↓cnd_t, ↓cnd_f, ↓cnf_t, ↓cnf_f, VS, astep, Nat.reduceEqDiff, Nat.reduceAdd, Nat.reduceMul, Nat.reduceLT, Nat.reduceLeDiff, Nat.reduceBEq, Int.reduceLT, reduceCtorEq]
      rw [wr_in (by omega) (by omega)]
      refine ih (i + 1) _ (by omega) fun y hy' => ?_
      by_cases hyi : y = i
      · subst hyi; exact hb
      · exact ht y (by omega)
theorem ref14.Associative_z {Γ : Ctx} (t : List (List Int)) (hs : sq t) (hl : t.length ≤ 400) (X Y : Nat) (hX : X < t.length) (hY : Y < t.length) {Q : Exit → St → Prop}
    (hn : ∀ g (x y z : Int), ¬ assoc t → Q .ret (mk 63 [(2, eN .i64 x), (3, eN .i64 y), (4, eN .i64 z), (5, (eN .i64 5))] [] g))
    (hy : ∀ g, (∀ z < t.length, assoc3 t X Y z) → Q (.exit 4) (mk 63 [(0, LLI false false t), (7, eN .i64 X), (16, eN .i64 t.length), (17, eN .i64 X), (21, eN .i64 t.length), (22, eN .i64 Y)] [] g)) :
    ∀ (m i g : Nat), i + m = t.length → (∀ z < i, assoc3 t X Y z) → W Γ C.ref14.Associative.L4 (mk 63 [(0, LLI false false t), (7, eN .i64 X), (8, eN .i64 Y), (16, eN .i64 t.length), (17, eN .i64 X), (21, eN .i64 t.length), (22, eN .i64 Y), (26, eN .i64 t.length), (27, eN .i64 i)] [] g) Q := by
  intro m
  induction m with
  | zero =>
    intro i g hi ht
    refine W.go C.ref14.Associative.l4.eq_1 ?_
    simp only [↓cnd_t, ↓cnd_f, ↓cnf_t, ↓cnf_f, VS, astep, Nat.reduceEqDiff, Nat.reduceAdd, Nat.reduceMul, Nat.reduceLT, Nat.reduceLeDiff, Nat.reduceBEq, Int.reduceLT, reduceCtorEq]
    exact ⟨fun h => by omega, fun _ => hy _ fun z hz => ht z (by omega)⟩
  | succ m ih =>
    intro i g hi ht
    refine W.go C.ref14.Associative.l4.eq_1 ?_
    simp only [↓cnd_t, ↓cnd_f, ↓cnf_t, ↓cnf_f, VS, astep, Nat.reduceEqDiff, Nat.reduceAdd, Nat.reduceMul, Nat.reduceLT, Nat.reduceLeDiff, Nat.reduceBEq, Int.reduceLT, reduceCtorEq]
    obtain ⟨p1, p2⟩ := sq_pd hs (x := X) (y := Y) (by omega) (by omega) (by omega) (by omega)
    obtain ⟨q1, q2⟩ := sq_pd hs (x := Y) (y := i) (by omega) (by omega) (by omega) (by omega)
    have r1 := (sq_row hs (x := X) (by omega) (by omega)).1
    have r2 := (sq_row hs (x := Y) (by omega) (by omega)).1
    have r3 := (sq_row hs p1 p2).1
    unfold pd at p1 p2 q1 q2 r3
    refine ⟨fun h => ?_, fun h => by omega⟩
    simp only [r1, r2, r3]
    refine ⟨by omega, by omega, by omega, by omega, by omega, by omega, by omega, by omega, ?_, ?_⟩
    · intro hne
      refine hn _ _ _ _ fun ha => hne ?_
      exact ha X hX Y hY i (by omega)
    · intro he
      rw [wr_in (by omega) (by omega)]
      refine ih (i + 1) _ (by omega) fun z hz => ?_
      by_cases hzi : z = i
      · subst hzi; exact he
      · exact ht z (by omega)
theorem ref14.Associative_y {Γ : Ctx} (t : List (List Int)) (hs : sq t) (hl : t.length ≤ 400) (X : Nat) (hX : X < t.length) {Q : Exit → St → Prop}
    (hn : ∀ g (x y z : Int), ¬ assoc t → Q .ret (mk 63 [(2, eN .i64 x), (3, eN .i64 y), (4, eN .i64 z), (5, (eN .i64 5))] [] g))
    (hy : ∀ g, (∀ y < t.length, ∀ z < t.length, assoc3 t X y z) → Q (.exit 2) (mk 63 [(0, LLI false false t), (16, eN .i64 t.length), (17, eN .i64 X)] [] g)) :
    ∀ (m i g : Nat), i + m = t.length → (∀ y < i, ∀ z < t.length, assoc3 t X y z) → W Γ C.ref14.Associative.L2 (mk 63 [(0, LLI false false t), (7, eN .i64 X), (16, eN .i64 t.length), (17, eN .i64 X), (21, eN .i64 t.length), (22, eN .i64 i)] [] g) Q := by
  intro m
  induction m with
  | zero =>
    intro i g hi ht
    refine W.go C.ref14.Associative.l2.eq_1 ?_
    simp only [↓cnd_t, ↓cnd_f, ↓cnf_t, ↓cnf_f, VS, astep, Nat.reduceEqDiff, Nat.reduceAdd, Nat.reduceMul, Nat.reduceLT, Nat.reduceLeDiff, Nat.reduceBEq, Int.reduceLT, reduceCtorEq]
    exact ⟨fun h => by omega, fun _ => hy _ fun z hz => ht z (by omega)⟩
  | succ m ih =>
    intro i g hi ht
    refine W.go C.ref14.Associative.l2.eq_1 ?_
    simp only [↓cnd_t, ↓cnd_f, ↓cnf_t, ↓cnf_f, VS, astep, Nat.reduceEqDiff, Nat.reduceAdd, Nat.reduceMul, Nat.reduceLT, Nat.reduceLeDiff, Nat.reduceBEq, Int.reduceLT, reduceCtorEq]
    refine ⟨fun h => ?_, fun h => by omega⟩
    refine ref14.Associative_z t hs hl X i hX (by omega) ?_ ?_ t.length 0 _ (by omega) (fun z hz => by omega)
    · intro g x y z hb
      simp only [↓cnd_t, ↓cnd_f, ↓cnf_t, ↓cnf_f, VS, astep, Nat.reduceEqDiff, Nat.reduceAdd, Nat.reduceMul, Nat.reduceLT, Nat.reduceLeDiff, Nat.reduceBEq, Int.reduceLT, reduceCtorEq]
      exact hn _ _ _ _ hb
    · intro g hb
      simp only [↓cnd_t, ↓cnd_f, ↓cnf_t, ↓cnf_f, VS, astep, Nat.reduceEqDiff, Nat.reduceAdd, Nat.reduceMul, Nat.reduceLT, Nat.reduceLeDiff, Nat.reduceBEq, Int.reduceLT, reduceCtorEq]
      rw [wr_in (by omega) (by omega)]
      refine ih (i + 1) _ (by omega) fun y hy' => ?_
      by_cases hyi : y = i
      · subst hyi; exact hb
      · exact ht y (by omega)
theorem ref14.Associative_x {Γ : Ctx} (t : List (List Int)) (hs : sq t) (hl : t.length ≤ 400) {Q : Exit → St → Prop}
    (hn : ∀ g (x y z : Int), ¬ assoc t → Q .ret (mk 63 [(2, eN .i64 x), (3, eN .i64 y), (4, eN .i64 z), (5, (eN .i64 5))] [] g))
    (hy : ∀ g, assoc t → Q (.exit 0) (mk 63 [] [] g)) :
    ∀ (m i g : Nat), i + m = t.length → (∀ x < i, ∀ y < t.length, ∀ z < t.length, assoc3 t x y z) → W Γ C.ref14.Associative.L0 (mk 63 [(0, LLI false false t), (16, eN .i64 t.length), (17, eN .i64 i)] [] g) Q := by
  intro m
  induction m with
  | zero =>
    intro i g hi ht
    refine W.go C.ref14.Associative.l0.eq_1 ?_
    simp only [↓cnd_t, ↓cnd_f, ↓cnf_t, ↓cnf_f, VS, astep, Nat.reduceEqDiff, Nat.reduceAdd, Nat.reduceMul, Nat.reduceLT, Nat.reduceLeDiff, Nat.reduceBEq, Int.reduceLT, reduceCtorEq]
    exact ⟨fun h => by omega, fun _ => hy _ fun z hz => ht z (by omega)⟩
  | succ m ih =>
    intro i g hi ht
    refine W.go C.ref14.Associative.l0.eq_1 ?_
    simp only [↓cnd_t, ↓cnd_f, ↓cnf_t, ↓cnf_f, VS, astep, Nat.reduceEqDiff, Nat.reduceAdd, Nat.reduceMul, Nat.reduceLT, Nat.reduceLeDiff, Nat.reduceBEq, Int.reduceLT, reduceCtorEq]
    refine ⟨fun h => ?_, fun h => by omega⟩
    refine ref14.Associative_y t hs hl i (by omega) ?_ ?_ t.length 0 _ (by omega) (fun z hz => by omega)
    · intro g x y z hb
      simp only [↓cnd_t, ↓cnd_f, ↓cnf_t, ↓cnf_f, VS, astep, Nat.reduceEqDiff, Nat.reduceAdd, Nat.reduceMul, Nat.reduceLT, Nat.reduceLeDiff, Nat.reduceBEq, Int.reduceLT, reduceCtorEq]
      exact hn _ _ _ _ hb
    · intro g hb
      simp only [↓cnd_t, ↓cnd_f, ↓cnf_t, ↓cnf_f, VS, astep, Nat.reduceEqDiff, Nat.reduceAdd, Nat.reduceMul, Nat.reduceLT, Nat.reduceLeDiff, Nat.reduceBEq, Int.reduceLT, reduceCtorEq]
      rw [wr_in (by omega) (by omega)]
      refine ih (i + 1) _ (by omega) fun y hy' => ?_
      by_cases hyi : y = i
      · subst hyi; exact hb
      · exact ht y (by omega)
def P_failing (t : List (List Int)) (r : AV) : Prop := ∃ x y z : Int, r = .tup [eN .i64 x, eN .i64 y, eN .i64 z, eB (decide ¬ assoc t)]
theorem run_failing {Γ : Ctx} (t : List (List Int)) (hs : sq t) (hl : t.length ≤ 400) : ∃ r, P_failing t r ∧ Run Γ C.mult.failing.top C.mult.failing.rs 57 0 [LLI false false t] r := by
  refine Run.some C.mult.failing.top.eq_1 (by simp) ?_
  simp only [↓cnd_t, ↓cnd_f, ↓cnf_t, ↓cnf_f, VS, astep, Nat.reduceEqDiff, Nat.reduceAdd, Nat.reduceMul, Nat.reduceLT, Nat.reduceLeDiff, Nat.reduceBEq, Int.reduceLT, reduceCtorEq, enum, C.mult.failing.rs]
  refine mult.failing_x t hs hl ?_ ?_ t.length 0 _ (by omega) (fun z hz => by omega)
  · intro g x y z hb
    simp only [↓cnd_t, ↓cnd_f, ↓cnf_t, ↓cnf_f, VS, astep, Nat.reduceEqDiff, Nat.reduceAdd, Nat.reduceMul, Nat.reduceLT, Nat.reduceLeDiff, Nat.reduceBEq, Int.reduceLT, reduceCtorEq]
    refine ⟨_, ⟨x, y, z, rfl⟩, ends_4 (by decide) (by decide) (by decide) (by decide) (.lit _) (.lit _) (.lit _) ?_⟩
    simp only [hb, not_false_eq_true, decide_true]; exact .lit _
  · intro g hb
    simp only [↓cnd_t, ↓cnd_f, ↓cnf_t, ↓cnf_f, VS, astep, Nat.reduceEqDiff, Nat.reduceAdd, Nat.reduceMul, Nat.reduceLT, Nat.reduceLeDiff, Nat.reduceBEq, Int.reduceLT, reduceCtorEq]
    refine ⟨_, ⟨0, 0, 0, rfl⟩, ends_4 (by decide) (by decide) (by decide) (by decide) (.lit _) (.lit _) (.lit _) ?_⟩
    simp only [hb, not_true_eq_false, decide_false]; exact .lit _
def R_failing (args : List AV) (r : AV) : Prop := ∃ t, sq t ∧ t.length ≤ 400 ∧ args = [LLI false false t] ∧ P_failing t r ∧ Run (ctx []) C.mult.failing.top C.mult.failing.rs 57 0 args r
theorem fk_failing : Fk prog ⟨F_mult_failing, false, R_failing⟩ := C.mult.failing.fk (es := []) trivial <| by
  rintro _ _ ⟨t, hs, hl, rfl, ⟨x, y, z, rfl⟩, hr⟩
  exact ⟨hr, fun _ => fr_4 (.lit _) (.lit _) (.lit _) (.lit _)⟩
/-- What is wrong with a table. -/
def val (t : List (List Int)) : Int := if shp t = 0 then (if assoc t then 0 else 5) else shp t
theorem shp_0 {t : List (List Int)} (h : shp t = 0) : sq t ∧ 1 ≤ t.length ∧ t.length ≤ 400 := by
  unfold shp at h
  repeat' split at h
  all_goals first | omega | exact ⟨by assumption, by omega, by omega⟩
def R_val (args : List AV) (r : AV) : Prop := ∃ t : List (List Int), t.length < 2 ^ 62 ∧ args = [LLI false false t] ∧ r = eN .i64 (val t)
theorem fk_mValidate : Fk prog ⟨F_mult_Validate, false, R_val⟩ := C.mult.Validate.fk (es := [⟨F_mult_shape, false, R_Shape⟩, ⟨F_mult_failing, false, R_failing⟩]) ⟨fk_mult.shape, fk_failing, trivial⟩ <| by
  rintro _ _ ⟨t, hl, rfl, rfl⟩
  refine ⟨Run.of C.mult.Validate.top.eq_1 (by simp) ?_, fun _ => .lit _⟩
  simp only [↓cnd_t, ↓cnd_f, ↓cnf_t, ↓cnf_f, VS, astep, Nat.reduceEqDiff, Nat.reduceAdd, Nat.reduceMul, Nat.reduceLT, Nat.reduceLeDiff, Nat.reduceBEq, Int.reduceLT, reduceCtorEq, enum, C.mult.Validate.rs]
  refine YC.of (R := R_Shape) rfl [LLI false false t] _ ⟨t, hl, rfl, rfl⟩ (.cons (cv_LLI ff ff) .nil) ?_
  simp only [↓cnd_t, ↓cnd_f, ↓cnf_t, ↓cnf_f, VS, astep, Nat.reduceEqDiff, Nat.reduceAdd, Nat.reduceMul, Nat.reduceLT, Nat.reduceLeDiff, Nat.reduceBEq, Int.reduceLT, reduceCtorEq]
  refine ⟨fun h => ends_n (by decide) rfl ?_, fun h => ?_⟩
  · rw [val, if_neg h]
  · obtain ⟨h1, h2, h3⟩ := shp_0 h
    obtain ⟨r, ⟨x, y, z, rfl⟩, hr⟩ := run_failing (Γ := ctx []) t h1 h3
    refine YC.of (R := R_failing) rfl [LLI false false t] _ ⟨t, h1, h3, rfl, ⟨x, y, z, rfl⟩, hr⟩ (.cons (cv_LLI ff ff) .nil) ?_
    simp only [↓cnd_t, ↓cnd_f, ↓cnf_t, ↓cnf_f, VS, astep, Nat.reduceEqDiff, Nat.reduceAdd, Nat.reduceMul, Nat.reduceLT, Nat.reduceLeDiff, Nat.reduceBEq, Int.reduceLT, reduceCtorEq]
    refine ⟨fun h => ends_n (by decide) rfl ?_, fun h => ends_n (by decide) rfl ?_⟩
    · rw [val, if_pos (by assumption), if_neg h]
    · rw [val, if_pos (by assumption), if_pos (Classical.not_not.1 h)]
def P_assoc (t : List (List Int)) (r : AV) : Prop := ∃ x y z : Int, r = .tup [eN .i64 x, eN .i64 y, eN .i64 z, eN .i64 (val t)]
def R_assoc (args : List AV) (r : AV) : Prop := ∃ t : List (List Int), t.length < 2 ^ 62 ∧ args = [LLI false false t] ∧ P_assoc t r ∧ Run (ctx [⟨F_ref14_Shape, false, R_Shape⟩]) C.ref14.Associative.top C.ref14.Associative.rs 63 0 args r
theorem run_assoc (t : List (List Int)) (hl : t.length < 2 ^ 62) : ∃ r, P_assoc t r ∧ Run (ctx [⟨F_ref14_Shape, false, R_Shape⟩]) C.ref14.Associative.top C.ref14.Associative.rs 63 0 [LLI false false t] r := by
  refine Run.some C.ref14.Associative.top.eq_1 (by simp) ?_
  simp only [↓cnd_t, ↓cnd_f, ↓cnf_t, ↓cnf_f, VS, astep, Nat.reduceEqDiff, Nat.reduceAdd, Nat.reduceMul, Nat.reduceLT, Nat.reduceLeDiff, Nat.reduceBEq, Int.reduceLT, reduceCtorEq, enum, C.ref14.Associative.rs]
  refine YC.of (R := R_Shape) rfl [LLI false false t] _ ⟨t, hl, rfl, rfl⟩ (.cons (cv_LLI ff ff) .nil) ?_
  simp only [↓cnd_t, ↓cnd_f, ↓cnf_t, ↓cnf_f, VS, astep, Nat.reduceEqDiff, Nat.reduceAdd, Nat.reduceMul, Nat.reduceLT, Nat.reduceLeDiff, Nat.reduceBEq, Int.reduceLT, reduceCtorEq]
  refine ⟨fun h => ⟨_, ⟨0, 0, 0, rfl⟩, ends_4 (by decide) (by decide) (by decide) (by decide) (.lit _) (.lit _) (.lit _) ?_⟩, fun h => ?_⟩
  · rw [val, if_neg h]; exact .lit _
  · obtain ⟨h1, h2, h3⟩ := shp_0 h
    refine ref14.Associative_x t h1 h3 ?_ ?_ t.length 0 _ (by omega) (fun z hz => by omega)
    · intro g x y z hb
      simp only [↓cnd_t, ↓cnd_f, ↓cnf_t, ↓cnf_f, VS, astep, Nat.reduceEqDiff, Nat.reduceAdd, Nat.reduceMul, Nat.reduceLT, Nat.reduceLeDiff, Nat.reduceBEq, Int.reduceLT, reduceCtorEq]
      refine ⟨_, ⟨x, y, z, rfl⟩, ends_4 (by decide) (by decide) (by decide) (by decide) (.lit _) (.lit _) (.lit _) ?_⟩
      rw [val, if_pos h, if_neg hb]; exact .lit _
    · intro g hb
      simp only [↓cnd_t, ↓cnd_f, ↓cnf_t, ↓cnf_f, VS, astep, Nat.reduceEqDiff, Nat.reduceAdd, Nat.reduceMul, Nat.reduceLT, Nat.reduceLeDiff, Nat.reduceBEq, Int.reduceLT, reduceCtorEq]
      refine ⟨_, ⟨0, 0, 0, rfl⟩, ends_4 (by decide) (by decide) (by decide) (by decide) (.lit _) (.lit _) (.lit _) ?_⟩
      rw [val, if_pos h, if_pos hb]; exact .lit _
theorem fk_assoc : Fk prog ⟨F_ref14_Associative, false, R_assoc⟩ := C.ref14.Associative.fk (es := [⟨F_ref14_Shape, false, R_Shape⟩]) ⟨fk_ref14.Shape, trivial⟩ <| by
  rintro _ _ ⟨t, hl, rfl, ⟨x, y, z, rfl⟩, hr⟩
  exact ⟨hr, fun _ => fr_4 (.lit _) (.lit _) (.lit _) (.lit _)⟩
theorem fk_rValidate : Fk prog ⟨F_ref14_Validate, false, R_val⟩ := C.ref14.Validate.fk (es := [⟨F_ref14_Associative, false, R_assoc⟩]) ⟨fk_assoc, trivial⟩ <| by
  rintro _ _ ⟨t, hl, rfl, rfl⟩
  refine ⟨Run.of C.ref14.Validate.top.eq_1 (by simp) ?_, fun _ => .lit _⟩
  simp only [↓cnd_t, ↓cnd_f, ↓cnf_t, ↓cnf_f, VS, astep, Nat.reduceEqDiff, Nat.reduceAdd, Nat.reduceMul, Nat.reduceLT, Nat.reduceLeDiff, Nat.reduceBEq, Int.reduceLT, reduceCtorEq, enum, C.ref14.Validate.rs]
  obtain ⟨r, ⟨x, y, z, rfl⟩, hr⟩ := run_assoc t hl
  refine YC.of (R := R_assoc) rfl [LLI false false t] _ ⟨t, hl, rfl, ⟨x, y, z, rfl⟩, hr⟩ (.cons (cv_LLI ff ff) .nil) ?_
  simp only [↓cnd_t, ↓cnd_f, ↓cnf_t, ↓cnf_f, VS, astep, Nat.reduceEqDiff, Nat.reduceAdd, Nat.reduceMul, Nat.reduceLT, Nat.reduceLeDiff, Nat.reduceBEq, Int.reduceLT, reduceCtorEq]
  exact ends_n (by decide) rfl rfl
def R_isval (args : List AV) (r : AV) : Prop := ∃ t : List (List Int), t.length < 2 ^ 62 ∧ args = [LLI false false t] ∧ r = eB (decide (val t = 0))
theorem fk_rIsValid : Fk prog ⟨F_ref14_Valid, false, R_isval⟩ := C.ref14.Valid.fk (es := [⟨F_ref14_Validate, false, R_val⟩]) ⟨fk_rValidate, trivial⟩ <| by
  rintro _ _ ⟨t, hl, rfl, rfl⟩
  refine ⟨Run.of C.ref14.Valid.top.eq_1 (by simp) ?_, fun _ => .lit _⟩
  simp only [↓cnd_t, ↓cnd_f, ↓cnf_t, ↓cnf_f, VS, astep, Nat.reduceEqDiff, Nat.reduceAdd, Nat.reduceMul, Nat.reduceLT, Nat.reduceLeDiff, Nat.reduceBEq, Int.reduceLT, reduceCtorEq, enum, C.ref14.Valid.rs]
  refine YC.of (R := R_val) rfl [LLI false false t] _ ⟨t, hl, rfl, rfl⟩ (.cons (cv_LLI ff ff) .nil) ?_
  simp only [↓cnd_t, ↓cnd_f, ↓cnf_t, ↓cnf_f, VS, astep, Nat.reduceEqDiff, Nat.reduceAdd, Nat.reduceMul, Nat.reduceLT, Nat.reduceLeDiff, Nat.reduceBEq, Int.reduceLT, reduceCtorEq]
  exact ends_b (by decide) rfl rfl
-- ref14.In

theorem In_l0 {Γ : Ctx} (t : List (List Int)) (row : List Int) (hl : t.length < 2 ^ 62) (hr : row.length < 2 ^ 62) {Q : Exit → St → Prop} (hn : ∀ g, ¬ inr t.length row → Q .ret (mk 22 [(4, eB false)] [] g))
    (hy : ∀ g, inr t.length row → Q (.exit 0) (mk 22 [] [] g)) :
    ∀ (m i g : Nat), i + m = row.length → (∀ x ∈ row.take i, 0 ≤ x ∧ x < t.length) → W Γ C.ref14.In.L0 (mk 22 [(0, LLI false false t), (7, LI false row), (8, eN .i64 row.length), (9, eN .i64 i)] [] g) Q := by
  intro m
  induction m with
  | zero =>
    intro i g hi ht
    refine W.go C.ref14.In.l0.eq_1 ?_
    simp only [↓cnd_t, ↓cnd_f, ↓cnf_t, ↓cnf_f, VS, astep, Nat.reduceEqDiff, Nat.reduceAdd, Nat.reduceMul, Nat.reduceLT, Nat.reduceLeDiff, Nat.reduceBEq, Int.reduceLT, reduceCtorEq]
    exact ⟨fun h => by omega, fun _ => hy _ (take_all ht hi)⟩
  | succ m ih =>
    intro i g hi ht
    refine W.go C.ref14.In.l0.eq_1 ?_
    simp only [↓cnd_t, ↓cnd_f, ↓cnf_t, ↓cnf_f, VS, astep, Nat.reduceEqDiff, Nat.reduceAdd, Nat.reduceMul, Nat.reduceLT, Nat.reduceLeDiff, Nat.reduceBEq, Int.reduceLT, reduceCtorEq]
    have hg : gt row i = row[i] := gt_nat (by omega)
    have hm : row[i] ∈ row := List.getElem_mem _
    refine ⟨fun h => ⟨by omega, fun h1 => ⟨fun h2 => hn _ fun hx => by have := hx _ hm; rw [hg] at h2; omega, fun h2 => ?_⟩, fun h1 => hn _ fun hx => by have := hx _ hm; rw [hg] at h1; omega⟩, fun h => by omega⟩
    rw [wr_in (by omega) (by omega)]
    exact ih (i + 1) _ (by omega) (all_take ht (by omega) hg.symm (by omega))
def R_In (args : List AV) (r : AV) : Prop := ∃ (t : List (List Int)) (l : List Int), t.length < 2 ^ 62 ∧ l.length < 2 ^ 62 ∧ args = [LLI false false t, LI false l] ∧ r = eB (decide (inr t.length l))
theorem fk_In : Fk prog ⟨F_ref14_In, false, R_In⟩ := C.ref14.In.fk (es := []) trivial <| by
  rintro _ _ ⟨t, l, hl, hl', rfl, rfl⟩
  refine ⟨Run.of C.ref14.In.top.eq_1 (by simp) ?_, fun _ => .lit _⟩
  simp only [↓cnd_t, ↓cnd_f, ↓cnf_t, ↓cnf_f, VS, astep, Nat.reduceEqDiff, Nat.reduceAdd, Nat.reduceMul, Nat.reduceLT, Nat.reduceLeDiff, Nat.reduceBEq, Int.reduceLT, reduceCtorEq, enum, C.ref14.In.rs]
  refine In_l0 t l hl hl' ?_ ?_ l.length 0 _ (by omega) (by simp)
  · intro g hb
    simp only [↓cnd_t, ↓cnd_f, ↓cnf_t, ↓cnf_f, VS, astep, Nat.reduceEqDiff, Nat.reduceAdd, Nat.reduceMul, Nat.reduceLT, Nat.reduceLeDiff, Nat.reduceBEq, Int.reduceLT, reduceCtorEq]
    exact ends_b (by decide) rfl (by simp [hb])
  · intro g hb
    simp only [↓cnd_t, ↓cnd_f, ↓cnf_t, ↓cnf_f, VS, astep, Nat.reduceEqDiff, Nat.reduceAdd, Nat.reduceMul, Nat.reduceLT, Nat.reduceLeDiff, Nat.reduceBEq, Int.reduceLT, reduceCtorEq]
    exact ends_b (by decide) rfl (by simp [hb])
end Go.Proofs.YtbpajecjaoefaaaGreat.V

/- Functions that make a row: products, identities, sets. -/




namespace Go.Proofs.YtbpajecjaoefaaaGreat.V

open Go Go.RowKit Go.Proofs.Tryz

/-- A row that is filled from its start. -/
def fill {α : Type} (n : Nat) (a : List α) (z : α) : List α := a ++ List.replicate (n - a.length) z
theorem fill_len {α : Type} {n : Nat} {a : List α} {z : α} (h : a.length ≤ n) : (fill n a z).length = n := by simp [fill]; omega
theorem fill_set {α : Type} {n : Nat} {a : List α} {z v : α} (h : a.length < n) : (fill n a z).set a.length v = fill n (a ++ [v]) z := by
  unfold fill
  rw [List.set_append_right _ _ (Nat.le_refl _), Nat.sub_self]
  rw [show n - a.length = (n - (a ++ [v]).length) + 1 by simp; omega, List.replicate_succ, List.set_cons_zero]
  simp
theorem fill_nil {α : Type} {n : Nat} {z : α} : List.replicate n z = fill n [] z := by simp [fill]
theorem fill_all {α : Type} {n : Nat} {a : List α} {z : α} (h : a.length = n) : fill n a z = a := by simp [fill, h]

-- products

def comp' (f g : List Int) : List Int := f.map fun x => gt g x
def R_Compose (args : List AV) (r : AV) : Prop := ∃ f h : List Int, f.length < 2 ^ 40 ∧ inr h.length f ∧ args = [LI false f, LI false h] ∧ r = LI true (comp' f h)
theorem trans.compose_l0 {Γ : Ctx} (f h : List Int) (hl : f.length < 2 ^ 40) (hf : inr h.length f) {Q : Exit → St → Prop} (hy : ∀ g gg, Q (.exit 0) (mk 27 [(5, .own 0 gg)] [some (eM gg Tint 1 f.length (c1 (eN .i64)) (comp' f h))] g)) :
    ∀ (m i g : Nat) (gg : Gen), i + m = f.length → W Γ C.trans.compose.L0 (mk 27 [(1, LI false h), (5, .own 0 gg), (11, LI false f), (12, eN .i64 f.length), (13, eN .i64 i)] [some (eM gg Tint 1 f.length (c1 (eN .i64)) (fill f.length (comp' (f.take i) h) 0))] g) Q := by
  intro m
  induction m with
  | zero =>
    intro i g gg hi
    refine W.go C.trans.compose.l0.eq_1 ?_
    simp only [↓cnd_t, ↓cnd_f, ↓cnf_t, ↓cnf_f, VS, astep, Nat.reduceEqDiff, Nat.reduceAdd, Nat.reduceMul, Nat.reduceLT, Nat.reduceLeDiff, Nat.reduceBEq, Int.reduceLT, reduceCtorEq]
    refine ⟨fun h => by omega, fun _ => ?_⟩
    rw [List.take_of_length_le (by omega), fill_all (by simp [comp'])]
    exact hy _ _
  | succ m ih =>
    intro i g gg hi
    refine W.go C.trans.compose.l0.eq_1 ?_
    simp only [↓cnd_t, ↓cnd_f, ↓cnf_t, ↓cnf_f, VS, astep, Nat.reduceEqDiff, Nat.reduceAdd, Nat.reduceMul, Nat.reduceLT, Nat.reduceLeDiff, Nat.reduceBEq, Int.reduceLT, reduceCtorEq]
    have hg : gt f i = f[i] := gt_nat (by omega)
    obtain ⟨p1, p2⟩ := hf _ (List.getElem_mem (show i < f.length by omega))
    have hcl : (comp' (f.take i) h).length = i := by simp [comp']; omega
    have hfl : (fill f.length (comp' (f.take i) h) 0).length = f.length := fill_len (by omega)
    simp only [hg, hfl]
    refine ⟨fun _ => ⟨by omega, by omega, by omega, by omega, ?_⟩, fun h => by omega⟩
    rw [wr_in (by omega) (by omega)]
    have e : (fill f.length (comp' (f.take i) h) 0).set (i : Int).toNat (gt h f[i]) = fill f.length (comp' (f.take (i + 1)) h) 0 := by
      have := fill_set (n := f.length) (a := comp' (f.take i) h) (z := 0) (v := gt h f[i]) (by omega)
      rw [hcl] at this
      rw [Int.toNat_natCast, this, List.take_add_one, List.getElem?_eq_getElem (by omega)]
      simp only [comp', List.map_append, Option.toList_some, List.map_cons, List.map_nil]
    rw [e]
    exact ih (i + 1) _ gg (by omega)
theorem run_trans.compose {Γ : Ctx} (f h : List Int) (hl : f.length < 2 ^ 40) (hf : inr h.length f) : Run Γ C.trans.compose.top C.trans.compose.rs 27 1 [LI false f, LI false h] (LI true (comp' f h)) := by
  refine Run.of C.trans.compose.top.eq_1 (by simp) ?_
  simp only [↓cnd_t, ↓cnd_f, ↓cnf_t, ↓cnf_f, VS, astep, Nat.reduceEqDiff, Nat.reduceAdd, Nat.reduceMul, Nat.reduceLT, Nat.reduceLeDiff, Nat.reduceBEq, Int.reduceLT, reduceCtorEq, enum, C.trans.compose.rs]
  simp only [Int.toNat_natCast]
  refine ⟨by omega, ?_⟩
  rw [fill_nil]
  refine trans.compose_l0 f h hl hf ?_ f.length 0 _ _ (by omega)
  intro g gg
  simp only [↓cnd_t, ↓cnd_f, ↓cnf_t, ↓cnf_f, VS, astep, Nat.reduceEqDiff, Nat.reduceAdd, Nat.reduceMul, Nat.reduceLT, Nat.reduceLeDiff, Nat.reduceBEq, Int.reduceLT, reduceCtorEq]
  exact ends_1 (by decide) (cv_mI bk0 (by simp [comp']) (fun _ => rfl))
theorem fk_tcompose : Fk prog ⟨F_trans_compose, false, R_Compose⟩ := C.trans.compose.fk (es := []) trivial <| by
  rintro _ _ ⟨f, h, hl, hf, rfl, rfl⟩
  exact ⟨run_trans.compose f h hl hf, fun _ => fr_LI _⟩
-- identities

def iota (n : Nat) : List Int := (List.range n).map fun (i : Nat) => (i : Int)
theorem iota_len (n : Nat) : (iota n).length = n := by simp [iota]
theorem iota_succ (n : Nat) : iota (n + 1) = iota n ++ [(n : Int)] := by simp [iota, List.range_succ]
theorem ref03.Discrete_l {Γ : Ctx} (N : Nat) (hl : N < 2 ^ 40) {Q : Exit → St → Prop} (hy : ∀ g gg, Q (.exit 0) (mk 18 [(3, .own 0 gg)] [some (eM gg Tint 1 N (c1 (eN .i64)) (iota N))] g)) :
    ∀ (m i g : Nat) (gg : Gen), i + m = N → W Γ C.ref03.Discrete.L0 (mk 18 [(3, .own 0 gg), (8, eN .i64 N), (9, eN .i64 i)] [some (eM gg Tint 1 N (c1 (eN .i64)) (fill N (iota i) 0))] g) Q := by
  intro m
  induction m with
  | zero =>
    intro i g gg hi
    obtain rfl : i = N := by omega
    refine W.go C.ref03.Discrete.l0.eq_1 ?_
    simp only [↓cnd_t, ↓cnd_f, ↓cnf_t, ↓cnf_f, VS, astep, Nat.reduceEqDiff, Nat.reduceAdd, Nat.reduceMul, Nat.reduceLT, Nat.reduceLeDiff, Nat.reduceBEq, Int.reduceLT, reduceCtorEq]
    refine ⟨fun h => by omega, fun _ => ?_⟩
    rw [fill_all (iota_len _)]
    exact hy _ _
  | succ m ih =>
    intro i g gg hi
    refine W.go C.ref03.Discrete.l0.eq_1 ?_
    simp only [↓cnd_t, ↓cnd_f, ↓cnf_t, ↓cnf_f, VS, astep, Nat.reduceEqDiff, Nat.reduceAdd, Nat.reduceMul, Nat.reduceLT, Nat.reduceLeDiff, Nat.reduceBEq, Int.reduceLT, reduceCtorEq]
    have hfl : (fill N (iota i) 0).length = N := fill_len (by rw [iota_len]; omega)
    simp only [hfl]
    refine ⟨fun _ => ⟨by omega, by omega, ?_⟩, fun h => by omega⟩
    rw [wr_in (by omega) (by omega)]
    have e : (fill N (iota i) 0).set (i : Int).toNat (i : Int) = fill N (iota (i + 1)) 0 := by
      have := fill_set (n := N) (a := iota i) (z := 0) (v := (i : Int)) (by rw [iota_len]; omega)
      rw [iota_len] at this
      rw [Int.toNat_natCast, this, iota_succ]
    rw [e]
    exact ih (i + 1) _ gg (by omega)
theorem partition.Discrete_l {Γ : Ctx} (N : Nat) (hl : N < 2 ^ 40) {Q : Exit → St → Prop} (hy : ∀ g gg, Q (.exit 0) (mk 24 [(3, .own 0 gg)] [some (eM gg Tint 1 N (c1 (eN .i64)) (iota N))] g)) :
    ∀ (m i g : Nat) (gg : Gen), i + m = N → W Γ C.partition.Discrete.L0 (mk 24 [(3, .own 0 gg), (14, eN .i64 N), (15, eN .i64 i)] [some (eM gg Tint 1 N (c1 (eN .i64)) (fill N (iota i) 0))] g) Q := by
  intro m
  induction m with
  | zero =>
    intro i g gg hi
    obtain rfl : i = N := by omega
    refine W.go C.partition.Discrete.l0.eq_1 ?_
    simp only [↓cnd_t, ↓cnd_f, ↓cnf_t, ↓cnf_f, VS, astep, Nat.reduceEqDiff, Nat.reduceAdd, Nat.reduceMul, Nat.reduceLT, Nat.reduceLeDiff, Nat.reduceBEq, Int.reduceLT, reduceCtorEq]
    refine ⟨fun h => by omega, fun _ => ?_⟩
    rw [fill_all (iota_len _)]
    exact hy _ _
  | succ m ih =>
    intro i g gg hi
    refine W.go C.partition.Discrete.l0.eq_1 ?_
    simp only [↓cnd_t, ↓cnd_f, ↓cnf_t, ↓cnf_f, VS, astep, Nat.reduceEqDiff, Nat.reduceAdd, Nat.reduceMul, Nat.reduceLT, Nat.reduceLeDiff, Nat.reduceBEq, Int.reduceLT, reduceCtorEq]
    have hfl : (fill N (iota i) 0).length = N := fill_len (by rw [iota_len]; omega)
    simp only [hfl]
    refine ⟨fun _ => ⟨by omega, by omega, ?_⟩, fun h => by omega⟩
    rw [wr_in (by omega) (by omega)]
    have e : (fill N (iota i) 0).set (i : Int).toNat (i : Int) = fill N (iota (i + 1)) 0 := by
      have := fill_set (n := N) (a := iota i) (z := 0) (v := (i : Int)) (by rw [iota_len]; omega)
      rw [iota_len] at this
      rw [Int.toNat_natCast, this, iota_succ]
    rw [e]
    exact ih (i + 1) _ gg (by omega)
def R_iota (args : List AV) (r : AV) : Prop := ∃ n : Nat, n ≤ 4096 ∧ args = [eN .i64 n] ∧ r = LI true (iota n)
theorem fk_rDiscrete : Fk prog ⟨F_ref03_Discrete, false, R_iota⟩ := C.ref03.Discrete.fk (es := []) trivial <| by
  rintro _ _ ⟨n, hn, rfl, rfl⟩
  refine ⟨Run.of C.ref03.Discrete.top.eq_1 (by simp) ?_, fun _ => fr_LI _⟩
  simp only [↓cnd_t, ↓cnd_f, ↓cnf_t, ↓cnf_f, VS, astep, Nat.reduceEqDiff, Nat.reduceAdd, Nat.reduceMul, Nat.reduceLT, Nat.reduceLeDiff, Nat.reduceBEq, Int.reduceLT, reduceCtorEq, enum, C.ref03.Discrete.rs]
  simp only [Int.toNat_natCast]
  refine ⟨by omega, ?_⟩
  rw [fill_nil]
  refine ref03.Discrete_l n (by omega) ?_ n 0 _ _ (by omega)
  intro g gg
  simp only [↓cnd_t, ↓cnd_f, ↓cnf_t, ↓cnf_f, VS, astep, Nat.reduceEqDiff, Nat.reduceAdd, Nat.reduceMul, Nat.reduceLT, Nat.reduceLeDiff, Nat.reduceBEq, Int.reduceLT, reduceCtorEq]
  exact ends_1 (by decide) (cv_mI bk0 (iota_len n).symm (fun _ => rfl))
theorem fk_pDiscrete : Fk prog ⟨F_partition_Discrete, false, R_iota⟩ := C.partition.Discrete.fk (es := []) trivial <| by
  rintro _ _ ⟨n, hn, rfl, rfl⟩
  refine ⟨Run.of C.partition.Discrete.top.eq_1 (by simp) ?_, fun _ => fr_LI _⟩
  simp only [↓cnd_t, ↓cnd_f, ↓cnf_t, ↓cnf_f, VS, astep, Nat.reduceEqDiff, Nat.reduceAdd, Nat.reduceMul, Nat.reduceLT, Nat.reduceLeDiff, Nat.reduceBEq, Int.reduceLT, reduceCtorEq, enum, C.partition.Discrete.rs]
  simp only [Int.toNat_natCast]
  refine ⟨fun _ => ⟨fun h => by omega, fun _ => ⟨by omega, ?_⟩⟩, fun h => by omega⟩
  rw [fill_nil]
  refine partition.Discrete_l n (by omega) ?_ n 0 _ _ (by omega)
  intro g gg
  simp only [↓cnd_t, ↓cnd_f, ↓cnf_t, ↓cnf_f, VS, astep, Nat.reduceEqDiff, Nat.reduceAdd, Nat.reduceMul, Nat.reduceLT, Nat.reduceLeDiff, Nat.reduceBEq, Int.reduceLT, reduceCtorEq]
  exact ends_1 (by decide) (cv_mI bk0 (iota_len n).symm (fun _ => rfl))
end Go.Proofs.YtbpajecjaoefaaaGreat.V

/- Functions that make a row: sets and their members. -/




namespace Go.Proofs.YtbpajecjaoefaaaGreat.V

open Go Go.RowKit Go.Proofs.Tryz

/-- The numbers below n that lie in a list. -/
def inSet (l : List Int) (n : Nat) : List Bool := (List.range n).map fun (i : Nat) => decide ((i : Int) ∈ l)
theorem inSet_len (l : List Int) (n : Nat) : (inSet l n).length = n := by simp [inSet]
theorem inSet_nil (n : Nat) : inSet [] n = List.replicate n false := by
  simp only [inSet, List.not_mem_nil, decide_false]
  induction n with
  | zero => rfl
  | succ n ih => rw [List.range_succ, List.map_append, ih, List.replicate_succ']; rfl
theorem inSet_put {l : List Int} {n : Nat} {x : Int} (h0 : 0 ≤ x) (h1 : x < n) : (inSet l n).set x.toNat true = inSet (l ++ [x]) n := by
  refine List.ext_getElem? fun j => ?_
  rw [List.getElem?_set, inSet_len]
  unfold inSet
  by_cases hj : j < n
  · rw [List.getElem?_map, List.getElem?_map, List.getElem?_range hj]
    simp only [Option.map_some, List.mem_append, List.mem_singleton]
    by_cases e : x.toNat = j
    · rw [if_pos e, if_pos (by omega)]
      have : (j : Int) = x := by omega
      simp [this]
    · rw [if_neg e]
      have : ¬ (j : Int) = x := by omega
      simp [this]
  · rw [if_neg (by omega)]
    simp [hj]
theorem inSet_skip {l : List Int} {n : Nat} {x : Int} (h : ¬ (0 ≤ x ∧ x < n)) : inSet l n = inSet (l ++ [x]) n := by
  unfold inSet
  refine List.map_congr_left fun i hi => ?_
  have := List.mem_range.1 hi
  have : ¬ (i : Int) = x := by omega
  simp [this]
theorem Set_l0 {Γ : Ctx} (l : List Int) (n : Nat) (hl : l.length < 2 ^ 40) (hn : n < 2 ^ 40) {Q : Exit → St → Prop} (hy : ∀ g gg, Q (.exit 0) (mk 28 [(5, .own 0 gg)] [some (eM gg Tbool 1 n (c1 eB) (inSet l n))] g)) :
    ∀ (m i g : Nat) (gg : Gen), i + m = l.length → W Γ C.ref03.Set.L0 (mk 28 [(1, eN .i64 n), (5, .own 0 gg), (10, LI false l), (11, eN .i64 l.length), (12, eN .i64 i)] [some (eM gg Tbool 1 n (c1 eB) (inSet (l.take i) n))] g) Q := by
  intro m
  induction m with
  | zero =>
    intro i g gg hi
    refine W.go C.ref03.Set.l0.eq_1 ?_
    simp only [↓cnd_t, ↓cnd_f, ↓cnf_t, ↓cnf_f, VS, astep, Nat.reduceEqDiff, Nat.reduceAdd, Nat.reduceMul, Nat.reduceLT, Nat.reduceLeDiff, Nat.reduceBEq, Int.reduceLT, reduceCtorEq]
    refine ⟨fun h => by omega, fun _ => ?_⟩
    rw [List.take_of_length_le (by omega)]
    exact hy _ _
  | succ m ih =>
    intro i g gg hi
    refine W.go C.ref03.Set.l0.eq_1 ?_
    simp only [↓cnd_t, ↓cnd_f, ↓cnf_t, ↓cnf_f, VS, astep, Nat.reduceEqDiff, Nat.reduceAdd, Nat.reduceMul, Nat.reduceLT, Nat.reduceLeDiff, Nat.reduceBEq, Int.reduceLT, reduceCtorEq]
    have hg : gt l i = l[i] := gt_nat (by omega)
    have ht : l.take (i + 1) = l.take i ++ [l[i]] := by rw [List.take_add_one, List.getElem?_eq_getElem (by omega)]; rfl
    simp only [hg, inSet_len]
    have key : ∀ g, W Γ C.ref03.Set.L0 (mk 28 [(1, eN .i64 n), (5, .own 0 gg), (10, LI false l), (11, eN .i64 l.length), (12, eN .i64 (i + 1 : Nat))] [some (eM gg Tbool 1 n (c1 eB) (inSet (l.take (i + 1)) n))] g) Q := fun g => ih (i + 1) g gg (by omega)
    rw [ht] at key
    have hw : IntKind.i64.wrap (↑i + 1) = ((i + 1 : Nat) : Int) := by rw [wr_in (by omega) (by omega)]; simp
    simp only [hw]
    refine ⟨fun _ => ⟨by omega, fun h1 => ⟨fun h2 => ⟨by omega, by omega, ?_⟩, fun h2 => ?_⟩, fun h1 => ?_⟩, fun h => by omega⟩
    · rw [inSet_put h1 h2]; exact key _
    · rw [inSet_skip (l := l.take i) (x := l[i]) (by omega)]; exact key _
    · rw [inSet_skip (l := l.take i) (x := l[i]) (by omega)]; exact key _
def R_Set (args : List AV) (r : AV) : Prop := ∃ (l : List Int) (n : Nat), l.length < 2 ^ 40 ∧ n < 2 ^ 40 ∧ args = [LI false l, eN .i64 n] ∧ r = LB true (inSet l n)
theorem fk_Set : Fk prog ⟨F_ref03_Set, false, R_Set⟩ := C.ref03.Set.fk (es := []) trivial <| by
  rintro _ _ ⟨l, n, hl, hn, rfl, rfl⟩
  refine ⟨Run.of C.ref03.Set.top.eq_1 (by simp) ?_, fun _ => fr_LB _⟩
  simp only [↓cnd_t, ↓cnd_f, ↓cnf_t, ↓cnf_f, VS, astep, Nat.reduceEqDiff, Nat.reduceAdd, Nat.reduceMul, Nat.reduceLT, Nat.reduceLeDiff, Nat.reduceBEq, Int.reduceLT, reduceCtorEq, enum, C.ref03.Set.rs]
  simp only [Int.toNat_natCast]
  refine ⟨by omega, ?_⟩
  rw [← inSet_nil]
  refine Set_l0 l n (by omega) (by omega) ?_ l.length 0 _ _ (by omega)
  intro g gg
  simp only [↓cnd_t, ↓cnd_f, ↓cnf_t, ↓cnf_f, VS, astep, Nat.reduceEqDiff, Nat.reduceAdd, Nat.reduceMul, Nat.reduceLT, Nat.reduceLeDiff, Nat.reduceBEq, Int.reduceLT, reduceCtorEq]
  exact ends_1 (by decide) (cv_mB bk0 (inSet_len l n).symm (fun _ => rfl))

/-- The members of a set. -/
def mems (s : List Bool) (n : Nat) : List Int := ((List.range n).filter fun i => s.getD i false).map fun (i : Nat) => (i : Int)
theorem mems_succ (s : List Bool) (n : Nat) : mems s (n + 1) = if s.getD n false then mems s n ++ [(n : Int)] else mems s n := by
  unfold mems
  rw [List.range_succ, List.filter_append, List.map_append]
  by_cases h : s.getD n false = true
  · rw [if_pos h]; simp only [List.filter_cons, h, if_true, List.filter_nil, List.map_cons, List.map_nil]
  · rw [if_neg h]; simp only [List.filter_cons, h, if_false, List.filter_nil, List.map_nil, List.append_nil, Bool.false_eq_true]
theorem mems_len (s : List Bool) (n : Nat) : (mems s n).length ≤ n := by
  unfold mems
  rw [List.length_map]
  exact Nat.le_trans (List.length_filter_le _ _) (by simp)
theorem ref03.Members_m {Γ : Ctx} (s : List Bool) (hl : s.length < 2 ^ 40) {Q : Exit → St → Prop} (hy : ∀ g gg, Q (.exit 0) (mk 20 [(3, .own 0 gg)] [some (eR gg Tint 1 (c1 (eN .i64)) (mems s s.length)), none] g)) :
    ∀ (m i g : Nat) (gg : Gen), i + m = s.length → W Γ C.ref03.Members.L0 (mk 20 [(3, .own 0 gg), (6, LB false s), (7, eN .i64 s.length), (8, eN .i64 i)] [some (eR gg Tint 1 (c1 (eN .i64)) (mems s i)), none] g) Q := by
  intro m
  induction m with
  | zero =>
    intro i g gg hi
    obtain rfl : i = s.length := by omega
    refine W.go C.ref03.Members.l0.eq_1 ?_
    simp only [↓cnd_t, ↓cnd_f, ↓cnf_t, ↓cnf_f, VS, astep, Nat.reduceEqDiff, Nat.reduceAdd, Nat.reduceMul, Nat.reduceLT, Nat.reduceLeDiff, Nat.reduceBEq, Int.reduceLT, reduceCtorEq]
    exact ⟨fun h => by omega, fun _ => hy _ _⟩
  | succ m ih =>
    intro i g gg hi
    refine W.go C.ref03.Members.l0.eq_1 ?_
    simp only [↓cnd_t, ↓cnd_f, ↓cnf_t, ↓cnf_f, VS, astep, Nat.reduceEqDiff, Nat.reduceAdd, Nat.reduceMul, Nat.reduceLT, Nat.reduceLeDiff, Nat.reduceBEq, Int.reduceLT, reduceCtorEq]
    have hg : gt s i = s.getD i false := rfl
    have hw : IntKind.i64.wrap (↑i + 1) = ((i + 1 : Nat) : Int) := by rw [wr_in (by omega) (by omega)]; simp
    have hml := mems_len s i
    simp only [hg, hw]
    refine ⟨fun _ => ⟨by omega, fun h1 => ?_, fun h1 => ?_⟩, fun h => by omega⟩
    · refine ⟨⟨by omega, by omega⟩, ?_⟩
      have := ih (i + 1) (g + 1 + 1 + 1 + 1 + 1) (g + 1 + 1 + 1, 3) (by omega)
      rw [mems_succ, if_pos h1] at this
      rw [show (mems s i).length + 1 = (mems s i ++ [(i : Int)]).length by simp]
      exact this
    · have := ih (i + 1) (g + 1 + 1 + 1 + 1) gg (by omega)
      rw [mems_succ, if_neg (by rw [h1]; simp)] at this
      exact this
def R_mems (args : List AV) (r : AV) : Prop := ∃ s : List Bool, s.length < 2 ^ 40 ∧ args = [LB false s] ∧ r = LI true (mems s s.length)
theorem fk_Members : Fk prog ⟨F_ref03_Members, false, R_mems⟩ := C.ref03.Members.fk (es := []) trivial <| by
  rintro _ _ ⟨s, hl, rfl, rfl⟩
  refine ⟨Run.of C.ref03.Members.top.eq_1 (by simp) ?_, fun _ => fr_LI _⟩
  simp only [↓cnd_t, ↓cnd_f, ↓cnf_t, ↓cnf_f, VS, astep, Nat.reduceEqDiff, Nat.reduceAdd, Nat.reduceMul, Nat.reduceLT, Nat.reduceLeDiff, Nat.reduceBEq, Int.reduceLT, reduceCtorEq, enum, C.ref03.Members.rs]
  refine ref03.Members_m s hl ?_ s.length 0 _ _ (by omega)
  intro g gg
  simp only [↓cnd_t, ↓cnd_f, ↓cnf_t, ↓cnf_f, VS, astep, Nat.reduceEqDiff, Nat.reduceAdd, Nat.reduceMul, Nat.reduceLT, Nat.reduceLeDiff, Nat.reduceBEq, Int.reduceLT, reduceCtorEq]
  exact ends_1 (by decide) (cv_mI bk0 rfl (fun _ => rfl))
/-- The image of a transformation. -/
def img (f : List Int) : List Int := mems (inSet f f.length) f.length
def R_rImage (args : List AV) (r : AV) : Prop := ∃ f : List Int, f.length < 2 ^ 40 ∧ args = [LI false f] ∧ r = LI true (img f)
-- trans.Image

theorem tImage_l0 {Γ : Ctx} (f : List Int) (n : Nat) (hl : f.length < 2 ^ 40) (hf : inr n f) (hn : n < 2 ^ 40) {Q : Exit → St → Prop} (hy : ∀ g gg, Q (.exit 0) (mk 39 [(3, .own 0 gg)] [some (eM gg Tbool 1 n (c1 eB) (inSet f n)), none, none] g)) :
    ∀ (m i g : Nat) (gg : Gen), i + m = f.length → W Γ C.trans.Image.L0 (mk 39 [(3, .own 0 gg), (15, LI false f), (16, eN .i64 f.length), (17, eN .i64 i)] [some (eM gg Tbool 1 n (c1 eB) (inSet (f.take i) n)), none, none] g) Q := by
  intro m
  induction m with
  | zero =>
    intro i g gg hi
    refine W.go C.trans.Image.l0.eq_1 ?_
    simp only [↓cnd_t, ↓cnd_f, ↓cnf_t, ↓cnf_f, VS, astep, Nat.reduceEqDiff, Nat.reduceAdd, Nat.reduceMul, Nat.reduceLT, Nat.reduceLeDiff, Nat.reduceBEq, Int.reduceLT, reduceCtorEq]
    refine ⟨fun h => by omega, fun _ => ?_⟩
    rw [List.take_of_length_le (by omega)]
    exact hy _ _
  | succ m ih =>
    intro i g gg hi
    refine W.go C.trans.Image.l0.eq_1 ?_
    simp only [↓cnd_t, ↓cnd_f, ↓cnf_t, ↓cnf_f, VS, astep, Nat.reduceEqDiff, Nat.reduceAdd, Nat.reduceMul, Nat.reduceLT, Nat.reduceLeDiff, Nat.reduceBEq, Int.reduceLT, reduceCtorEq]
    have hg : gt f i = f[i] := gt_nat (by omega)
    have ht : f.take (i + 1) = f.take i ++ [f[i]] := by rw [List.take_add_one, List.getElem?_eq_getElem (by omega)]; rfl
    obtain ⟨p1, p2⟩ := hf _ (List.getElem_mem (show i < f.length by omega))
    simp only [hg, inSet_len]
    have hw : IntKind.i64.wrap (↑i + 1) = ((i + 1 : Nat) : Int) := by rw [wr_in (by omega) (by omega)]; simp
    simp only [hw]
    refine ⟨fun _ => ⟨by omega, by omega, by omega, ?_⟩, fun h => by omega⟩
    rw [inSet_put p1 p2, ← ht]
    exact ih (i + 1) _ gg (by omega)
theorem tImage_l2 {Γ : Ctx} (s : List Bool) (N : Nat) (hN : s.length = N) (hl : N < 2 ^ 40) (g0 : Gen) {Q : Exit → St → Prop} (hy : ∀ g gg, Q (.exit 2) (mk 39 [(6, .own 1 gg)] [none, some (eR gg Tint 1 (c1 (eN .i64)) (mems s N)), none] g)) :
    ∀ (m i g : Nat) (gg : Gen), i + m = N → W Γ C.trans.Image.L2 (mk 39 [(6, .own 1 gg), (25, .own 0 g0), (26, eN .i64 N), (27, eN .i64 i)] [some (eM g0 Tbool 1 N (c1 eB) s), some (eR gg Tint 1 (c1 (eN .i64)) (mems s i)), none] g) Q := by
  intro m
  induction m with
  | zero =>
    intro i g gg hi
    obtain rfl : i = N := by omega
    refine W.go C.trans.Image.l2.eq_1 ?_
    simp only [↓cnd_t, ↓cnd_f, ↓cnf_t, ↓cnf_f, VS, astep, Nat.reduceEqDiff, Nat.reduceAdd, Nat.reduceMul, Nat.reduceLT, Nat.reduceLeDiff, Nat.reduceBEq, Int.reduceLT, reduceCtorEq]
    exact ⟨fun h => by omega, fun _ => hy _ _⟩
  | succ m ih =>
    intro i g gg hi
    refine W.go C.trans.Image.l2.eq_1 ?_
    simp only [↓cnd_t, ↓cnd_f, ↓cnf_t, ↓cnf_f, VS, astep, Nat.reduceEqDiff, Nat.reduceAdd, Nat.reduceMul, Nat.reduceLT, Nat.reduceLeDiff, Nat.reduceBEq, Int.reduceLT, reduceCtorEq]
    have hg : gt s i = s.getD i false := rfl
    have hw : IntKind.i64.wrap (↑i + 1) = ((i + 1 : Nat) : Int) := by rw [wr_in (by omega) (by omega)]; simp
    have hml := mems_len s i
    simp only [hg, hw, hN]
    refine ⟨fun _ => ⟨by omega, by omega, fun h1 => ?_, fun h1 => ?_⟩, fun h => by omega⟩
    · refine ⟨⟨by omega, by omega⟩, ?_⟩
      have := ih (i + 1) (g + 1 + 1 + 1 + 1 + 1) (g + 1 + 1 + 1, 3) (by omega)
      rw [mems_succ, if_pos h1] at this
      rw [show (mems s i).length + 1 = (mems s i ++ [(i : Int)]).length by simp]
      exact this
    · have := ih (i + 1) (g + 1 + 1 + 1 + 1) gg (by omega)
      rw [mems_succ, if_neg (by rw [h1]; simp)] at this
      exact this
theorem vt_inr {f : List Int} (h : vt f = true) : 1 ≤ f.length ∧ f.length ≤ 32 ∧ inr f.length f := by
  simp only [vt, Bool.and_eq_true, decide_eq_true_eq, List.all_eq_true] at h
  exact ⟨h.1.1, h.1.2, h.2⟩
def R_tImage (args : List AV) (r : AV) : Prop := ∃ f : List Int, f.length < 2 ^ 40 ∧ args = [LI false f] ∧ r = LI true (if vt f then img f else [])
theorem fk_tImage : Fk prog ⟨F_trans_Image, false, R_tImage⟩ := C.trans.Image.fk (es := [⟨F_trans_Valid, false, R_Valid⟩]) ⟨fk_tValid, trivial⟩ <| by
  rintro _ _ ⟨f, hl, rfl, rfl⟩
  refine ⟨Run.of C.trans.Image.top.eq_1 (by simp) ?_, fun _ => fr_LI _⟩
  simp only [↓cnd_t, ↓cnd_f, ↓cnf_t, ↓cnf_f, VS, astep, Nat.reduceEqDiff, Nat.reduceAdd, Nat.reduceMul, Nat.reduceLT, Nat.reduceLeDiff, Nat.reduceBEq, Int.reduceLT, reduceCtorEq, enum, C.trans.Image.rs]
  refine YC.of (R := R_Valid) rfl [LI false f] _ ⟨f, by omega, rfl, rfl⟩ (.cons (cv_LI ff) .nil) ?_
  simp only [↓cnd_t, ↓cnd_f, ↓cnf_t, ↓cnf_f, VS, astep, Nat.reduceEqDiff, Nat.reduceAdd, Nat.reduceMul, Nat.reduceLT, Nat.reduceLeDiff, Nat.reduceBEq, Int.reduceLT, reduceCtorEq]
  refine ⟨fun h => ends_1 (by decide) ?_, fun h => ⟨by omega, ?_⟩⟩
  · simp only [h, Bool.false_eq_true, if_false]; exact cv_LI (l := []) fun _ => ⟨rfl, rfl⟩
  · obtain ⟨h1, h2, h3⟩ := vt_inr h
    simp only [Int.toNat_natCast, ← inSet_nil, h, if_true]
    refine tImage_l0 f f.length hl h3 hl ?_ f.length 0 _ _ (by omega)
    intro g gg
    simp only [↓cnd_t, ↓cnd_f, ↓cnf_t, ↓cnf_f, VS, astep, Nat.reduceEqDiff, Nat.reduceAdd, Nat.reduceMul, Nat.reduceLT, Nat.reduceLeDiff, Nat.reduceBEq, Int.reduceLT, reduceCtorEq]
    refine tImage_l2 (inSet f f.length) f.length (inSet_len ..) hl gg ?_ f.length 0 _ _ (by omega)
    intro g gg
    simp only [↓cnd_t, ↓cnd_f, ↓cnf_t, ↓cnf_f, VS, astep, Nat.reduceEqDiff, Nat.reduceAdd, Nat.reduceMul, Nat.reduceLT, Nat.reduceLeDiff, Nat.reduceBEq, Int.reduceLT, reduceCtorEq]
    exact ends_1 (by decide) (cv_oI bk1 (fun _ => rfl))
-- how many points; permutations

def R_rank (args : List AV) (r : AV) : Prop := ∃ f : List Int, f.length < 2 ^ 40 ∧ vt f = true ∧ args = [LI false f] ∧ r = eN .i64 (img f).length
theorem fk_rank : Fk prog ⟨F_trans_Rank, false, R_rank⟩ := C.trans.Rank.fk (es := [⟨F_trans_Image, false, R_tImage⟩]) ⟨fk_tImage, trivial⟩ <| by
  rintro _ _ ⟨f, hl, hv, rfl, rfl⟩
  refine ⟨Run.of C.trans.Rank.top.eq_1 (by simp) ?_, fun _ => .lit _⟩
  simp only [↓cnd_t, ↓cnd_f, ↓cnf_t, ↓cnf_f, VS, astep, Nat.reduceEqDiff, Nat.reduceAdd, Nat.reduceMul, Nat.reduceLT, Nat.reduceLeDiff, Nat.reduceBEq, Int.reduceLT, reduceCtorEq, enum, C.trans.Rank.rs]
  refine YC.of (R := R_tImage) rfl [LI false f] _ ⟨f, hl, rfl, rfl⟩ (.cons (cv_LI ff) .nil) ?_
  simp only [↓cnd_t, ↓cnd_f, ↓cnf_t, ↓cnf_f, VS, astep, Nat.reduceEqDiff, Nat.reduceAdd, Nat.reduceMul, Nat.reduceLT, Nat.reduceLeDiff, Nat.reduceBEq, Int.reduceLT, reduceCtorEq, hv]
  exact ends_n (by decide) rfl rfl
def perm (f : List Int) : Bool := vt f && decide ((img f).length = f.length)
def R_perm (args : List AV) (r : AV) : Prop := ∃ f : List Int, f.length < 2 ^ 46 ∧ args = [LI false f] ∧ r = eB (perm f)
theorem fk_tperm : Fk prog ⟨F_trans_IsPermutation, false, R_perm⟩ := C.trans.IsPermutation.fk (es := [⟨F_trans_Valid, false, R_Valid⟩, ⟨F_trans_Rank, false, R_rank⟩]) ⟨fk_tValid, fk_rank, trivial⟩ <| by
  rintro _ _ ⟨f, hl, rfl, rfl⟩
  refine ⟨Run.of C.trans.IsPermutation.top.eq_1 (by simp) ?_, fun _ => .lit _⟩
  simp only [↓cnd_t, ↓cnd_f, ↓cnf_t, ↓cnf_f, VS, astep, Nat.reduceEqDiff, Nat.reduceAdd, Nat.reduceMul, Nat.reduceLT, Nat.reduceLeDiff, Nat.reduceBEq, Int.reduceLT, reduceCtorEq, enum, C.trans.IsPermutation.rs]
  refine YC.of (R := R_Valid) rfl [LI false f] _ ⟨f, by omega, rfl, rfl⟩ (.cons (cv_LI ff) .nil) ?_
  simp only [↓cnd_t, ↓cnd_f, ↓cnf_t, ↓cnf_f, VS, astep, Nat.reduceEqDiff, Nat.reduceAdd, Nat.reduceMul, Nat.reduceLT, Nat.reduceLeDiff, Nat.reduceBEq, Int.reduceLT, reduceCtorEq]
  refine ⟨fun hv => ?_, fun hv => ends_b (by decide) rfl (by simp [perm, hv])⟩
  refine YC.of (R := R_rank) rfl [LI false f] _ ⟨f, by have := vt_inr hv; omega, hv, rfl, rfl⟩ (.cons (cv_LI ff) .nil) ?_
  simp only [↓cnd_t, ↓cnd_f, ↓cnf_t, ↓cnf_f, VS, astep, Nat.reduceEqDiff, Nat.reduceAdd, Nat.reduceMul, Nat.reduceLT, Nat.reduceLeDiff, Nat.reduceBEq, Int.reduceLT, reduceCtorEq]
  exact ends_b (by decide) rfl (by simp only [perm, hv, Bool.true_and]; congr 1; exact propext (by omega))
end Go.Proofs.YtbpajecjaoefaaaGreat.V

/- Functions on permutations. -/




namespace Go.Proofs.YtbpajecjaoefaaaGreat.V

open Go Go.RowKit Go.Proofs.Tryz

def prms (l : List (List Int)) : Bool := l.all fun f => perm f && decide (f.length = (gt l 0).length)
def small (l : List (List Int)) : Prop := l.length < 2 ^ 46 ∧ ∀ f ∈ l, f.length < 2 ^ 46
theorem small_gt {l : List (List Int)} (h : small l) (i : Int) : (gt l i).length < 2 ^ 46 := by
  unfold gt
  by_cases hi : i.toNat < l.length
  · rw [List.getD_eq_getElem?_getD, List.getElem?_eq_getElem hi]; exact h.2 _ (List.getElem_mem _)
  · rw [List.getD_eq_getElem?_getD, List.getElem?_eq_none (by omega)]; show 0 < 2 ^ 46; decide
def mayP (l : List (List Int)) : Int := if l.length = 0 then 1 else if prms l then 0 else 4
theorem group.permutations_l0 {Γ : Ctx} (hΓ : Γ F_trans_IsPermutation = some (false, R_perm)) (l : List (List Int)) (hl : small l) {Q : Exit → St → Prop} (hn : ∀ g, prms l = false → Q .ret (mk 24 [(2, (eB false))] [] g)) (hy : ∀ g, prms l = true → Q (.exit 0) (mk 24 [] [] g)) :
    ∀ (m i g : Nat), i + m = l.length → (∀ f ∈ l.take i, (perm f && decide (f.length = (gt l 0).length)) = true) → W Γ C.group.permutations.L0 (mk 24 [(0, LLI false false l), (5, LLI false false l), (6, eN .i64 l.length), (7, eN .i64 i)] [] g) Q := by
  intro m
  induction m with
  | zero =>
    intro i g hi ht
    refine W.go C.group.permutations.l0.eq_1 ?_
    simp only [↓cnd_t, ↓cnd_f, ↓cnf_t, ↓cnf_f, VS, astep, Nat.reduceEqDiff, Nat.reduceAdd, Nat.reduceMul, Nat.reduceLT, Nat.reduceLeDiff, Nat.reduceBEq, Int.reduceLT, reduceCtorEq]
    exact ⟨fun h => by omega, fun _ => hy _ (by rw [prms, List.all_eq_true]; exact take_all ht hi)⟩
  | succ m ih =>
    intro i g hi ht
    refine W.go C.group.permutations.l0.eq_1 ?_
    simp only [↓cnd_t, ↓cnd_f, ↓cnf_t, ↓cnf_f, VS, astep, Nat.reduceEqDiff, Nat.reduceAdd, Nat.reduceMul, Nat.reduceLT, Nat.reduceLeDiff, Nat.reduceBEq, Int.reduceLT, reduceCtorEq]
    have hg : gt l i = l[i] := gt_nat (by omega)
    have hm : l[i] ∈ l := List.getElem_mem _
    have hl' := hl.1
    have hw : IntKind.i64.wrap (↑i + 1) = ((i + 1 : Nat) : Int) := by rw [wr_in (by omega) (by omega)]; simp
    refine ⟨fun _ => ⟨by omega, ?_⟩, fun h => by omega⟩
    refine YC.of (R := R_perm) hΓ [LI false (gt l i)] _ ⟨_, small_gt hl _, rfl, rfl⟩ (.cons (cv_LI ff) .nil) ?_
    simp only [↓cnd_t, ↓cnd_f, ↓cnf_t, ↓cnf_f, VS, astep, Nat.reduceEqDiff, Nat.reduceAdd, Nat.reduceMul, Nat.reduceLT, Nat.reduceLeDiff, Nat.reduceBEq, Int.reduceLT, reduceCtorEq, hw]
    have bad : (perm (gt l i) && decide ((gt l i).length = (gt l 0).length)) = false → prms l = false := by
      intro hb
      rw [hg] at hb
      rw [prms, List.all_eq_false]
      exact ⟨l[i], hm, by rw [hb]; simp⟩
    refine ⟨fun h1 => ⟨by omega, fun h2 => hn _ (bad (by rw [h1, Bool.true_and, decide_eq_false_iff_not]; omega)), fun h2 => ?_⟩, fun h1 => hn _ (bad (by rw [h1]; rfl))⟩
    exact ih (i + 1) _ (by omega) (all_take ht (by omega) hg.symm (by rw [h1, Bool.true_and, decide_eq_true_eq]; omega))
def R_mayP (args : List AV) (r : AV) : Prop := ∃ l : List (List Int), small l ∧ args = [LLI false false l] ∧ r = eN .i64 (mayP l)
def R_prms (args : List AV) (r : AV) : Prop := ∃ l : List (List Int), small l ∧ args = [LLI false false l] ∧ r = eB (prms l)
theorem fk_prms : Fk prog ⟨F_group_permutations, false, R_prms⟩ := C.group.permutations.fk (es := [⟨F_trans_IsPermutation, false, R_perm⟩]) ⟨fk_tperm, trivial⟩ <| by
  rintro _ _ ⟨l, hl, rfl, rfl⟩
  refine ⟨Run.of C.group.permutations.top.eq_1 (by simp) ?_, fun _ => .lit _⟩
  simp only [↓cnd_t, ↓cnd_f, ↓cnf_t, ↓cnf_f, VS, astep, Nat.reduceEqDiff, Nat.reduceAdd, Nat.reduceMul, Nat.reduceLT, Nat.reduceLeDiff, Nat.reduceBEq, Int.reduceLT, reduceCtorEq, enum, C.group.permutations.rs]
  refine group.permutations_l0 rfl l hl ?_ ?_ l.length 0 _ (by omega) (by simp)
  · intro g hb
    simp only [↓cnd_t, ↓cnd_f, ↓cnf_t, ↓cnf_f, VS, astep, Nat.reduceEqDiff, Nat.reduceAdd, Nat.reduceMul, Nat.reduceLT, Nat.reduceLeDiff, Nat.reduceBEq, Int.reduceLT, reduceCtorEq]
    exact ends_b (by decide) rfl hb.symm
  · intro g hb
    simp only [↓cnd_t, ↓cnd_f, ↓cnf_t, ↓cnf_f, VS, astep, Nat.reduceEqDiff, Nat.reduceAdd, Nat.reduceMul, Nat.reduceLT, Nat.reduceLeDiff, Nat.reduceBEq, Int.reduceLT, reduceCtorEq]
    exact ends_b (by decide) rfl hb.symm
-- trans.Identity, trans.Compose

def R_ident (args : List AV) (r : AV) : Prop := ∃ n : Nat, 1 ≤ n ∧ n ≤ 32 ∧ args = [eN .i64 n] ∧ r = LI true (iota n)
theorem fk_ident : Fk prog ⟨F_trans_Identity, false, R_ident⟩ := C.trans.Identity.fk (es := [⟨F_partition_Discrete, false, R_iota⟩]) ⟨fk_pDiscrete, trivial⟩ <| by
  rintro _ _ ⟨n, h1, h2, rfl, rfl⟩
  refine ⟨Run.of C.trans.Identity.top.eq_1 (by simp) ?_, fun _ => fr_LI _⟩
  simp only [↓cnd_t, ↓cnd_f, ↓cnf_t, ↓cnf_f, VS, astep, Nat.reduceEqDiff, Nat.reduceAdd, Nat.reduceMul, Nat.reduceLT, Nat.reduceLeDiff, Nat.reduceBEq, Int.reduceLT, reduceCtorEq, enum, C.trans.Identity.rs]
  refine ⟨fun h => ⟨fun h' => by omega, fun h' => ?_⟩, fun h => by omega⟩
  refine YC.of (R := R_iota) rfl [eN .i64 n] _ ⟨n, by omega, rfl, rfl⟩ (.cons (.lit _) .nil) ?_
  simp only [↓cnd_t, ↓cnd_f, ↓cnf_t, ↓cnf_f, VS, astep, Nat.reduceEqDiff, Nat.reduceAdd, Nat.reduceMul, Nat.reduceLT, Nat.reduceLeDiff, Nat.reduceBEq, Int.reduceLT, reduceCtorEq]
  exact ends_1 (by decide) (cv_LI fun _ => ⟨rfl, rfl⟩)
def R_tCompose (args : List AV) (r : AV) : Prop := ∃ f h : List Int, vt f = true ∧ vt h = true ∧ f.length = h.length ∧ args = [LI false f, LI false h] ∧ r = LI true (comp' f h)
theorem fk_tCompose : Fk prog ⟨F_trans_Compose, false, R_tCompose⟩ := C.trans.Compose.fk (es := [⟨F_trans_Valid, false, R_Valid⟩, ⟨F_trans_compose, false, R_Compose⟩]) ⟨fk_tValid, fk_tcompose, trivial⟩ <| by
  rintro _ _ ⟨f, h, hf, hh, hl, rfl, rfl⟩
  obtain ⟨f1, f2, f3⟩ := vt_inr hf
  obtain ⟨h1, h2, h3⟩ := vt_inr hh
  refine ⟨Run.of C.trans.Compose.top.eq_1 (by simp) ?_, fun _ => fr_LI _⟩
  simp only [↓cnd_t, ↓cnd_f, ↓cnf_t, ↓cnf_f, VS, astep, Nat.reduceEqDiff, Nat.reduceAdd, Nat.reduceMul, Nat.reduceLT, Nat.reduceLeDiff, Nat.reduceBEq, Int.reduceLT, reduceCtorEq, enum, C.trans.Compose.rs]
  refine ⟨fun h => ?_, fun h => by omega⟩
  refine YC.of (R := R_Valid) rfl [LI false f] _ ⟨f, by omega, rfl, rfl⟩ (.cons (cv_LI ff) .nil) ?_
  simp only [↓cnd_t, ↓cnd_f, ↓cnf_t, ↓cnf_f, VS, astep, Nat.reduceEqDiff, Nat.reduceAdd, Nat.reduceMul, Nat.reduceLT, Nat.reduceLeDiff, Nat.reduceBEq, Int.reduceLT, reduceCtorEq, hf]
  refine YC.of (R := R_Valid) rfl [LI false _] _ ⟨_, by omega, rfl, rfl⟩ (.cons (cv_LI ff) .nil) ?_
  simp only [↓cnd_t, ↓cnd_f, ↓cnf_t, ↓cnf_f, VS, astep, Nat.reduceEqDiff, Nat.reduceAdd, Nat.reduceMul, Nat.reduceLT, Nat.reduceLeDiff, Nat.reduceBEq, Int.reduceLT, reduceCtorEq, hh]
  refine YC.of (R := R_Compose) rfl [LI false f, LI false _] _ ⟨f, _, by omega, by rw [← hl]; exact f3, rfl, rfl⟩ (.cons (cv_LI ff) (.cons (cv_LI ff) .nil)) ?_
  simp only [↓cnd_t, ↓cnd_f, ↓cnf_t, ↓cnf_f, VS, astep, Nat.reduceEqDiff, Nat.reduceAdd, Nat.reduceMul, Nat.reduceLT, Nat.reduceLeDiff, Nat.reduceBEq, Int.reduceLT, reduceCtorEq]
  exact ends_1 (by decide) (cv_LI fun _ => ⟨rfl, rfl⟩)
end Go.Proofs.YtbpajecjaoefaaaGreat.V

/- Groups: the identity and the inverses of a table. -/




namespace Go.Proofs.YtbpajecjaoefaaaGreat.V

open Go Go.RowKit Go.Proofs.Tryz

/-- A loop that counts up to n. -/
theorem W.for {Γ : Ctx} {L : AC} {Q : Exit → St → Prop} {n : Nat} (P : Nat → St → Prop) (stop : ∀ st, P n st → W Γ L st Q) (step : ∀ i, i < n → (∀ st, P (i + 1) st → W Γ L st Q) → ∀ st, P i st → W Γ L st Q) : ∀ {i : Nat} {st : St}, i ≤ n → P i st → W Γ L st Q := by
  have key : ∀ (m i : Nat) (st : St), i + m = n → P i st → W Γ L st Q := by
    intro m
    induction m with
    | zero => intro i st h hp; obtain rfl : i = n := by omega
              exact stop st hp
    | succ m ih => intro i st h hp; exact step i (by omega) (fun st' hp' => ih (i + 1) st' (by omega) hp') st hp
  intro i st h hp
  exact key (n - i) i st (by omega) hp
theorem wr1 {i : Nat} (h : i < 9223372036854775807) : IntKind.i64.wrap ((i : Int) + 1) = ((i + 1 : Nat) : Int) := by rw [wr_in (by omega) (by omega)]; simp
/-- The first, the last number below n of a kind; -1: none. -/
def fst (p : Nat → Bool) (n : Nat) : Int := match (List.range n).find? p with | some i => (i : Int) | none => -1
def lst (p : Nat → Bool) : Nat → Int
  | 0 => -1
  | n + 1 => if p n then (n : Int) else lst p n
theorem fst_none {p : Nat → Bool} {n : Nat} (h : ∀ j < n, p j = false) : fst p n = -1 := by
  unfold fst
  rw [List.find?_eq_none.2 fun x hx => by simp [h x (List.mem_range.1 hx)]]
theorem fst_some {p : Nat → Bool} {n i : Nat} (hi : i < n) (hp : p i = true) (h : ∀ j < i, p j = false) : fst p n = i := by
  unfold fst
  have : (List.range n).find? p = some i := by
    rw [List.find?_range_eq_some]
    exact ⟨hp, by simpa using hi, fun j hj => by simp [h j hj]⟩
  rw [this]
theorem fst_spec (p : Nat → Bool) (n : Nat) : fst p n = -1 ∧ (∀ j < n, p j = false) ∨ ∃ i, i < n ∧ p i = true ∧ (∀ j < i, p j = false) ∧ fst p n = i := by
  cases e : (List.range n).find? p with
  | none =>
    left
    rw [List.find?_eq_none] at e
    refine ⟨fst_none ?_, ?_⟩ <;> exact fun j hj => by simpa using e j (List.mem_range.2 hj)
  | some i =>
    right
    rw [List.find?_range_eq_some] at e
    obtain ⟨h1, h2, h3⟩ := e
    have h2 : i < n := by simpa using h2
    have h3 : ∀ j < i, p j = false := fun j hj => by simpa using h3 j hj
    exact ⟨i, h2, h1, h3, fst_some h2 h1 h3⟩
theorem lst_spec (p : Nat → Bool) : ∀ n : Nat, lst p n = -1 ∧ (∀ j < n, p j = false) ∨ ∃ i, i < n ∧ p i = true ∧ lst p n = i
  | 0 => .inl ⟨rfl, fun j hj => by omega⟩
  | n + 1 => by
    cases h : p n with
    | true => exact .inr ⟨n, by omega, h, by simp [lst, h]⟩
    | false =>
      have e : lst p (n + 1) = lst p n := by simp [lst, h]
      rw [e]
      rcases lst_spec p n with ⟨h1, h2⟩ | ⟨i, h1, h2, h3⟩
      · refine .inl ⟨h1, fun j hj => ?_⟩
        by_cases hjn : j = n
        · subst hjn; exact h
        · exact h2 j (by omega)
      · exact .inr ⟨i, by omega, h2, h3⟩
theorem all_range_succ (q : Nat → Bool) (i : Nat) : (List.range (i + 1)).all q = ((List.range i).all q && q i) := by
  rw [List.range_succ, List.all_append]; simp
/-- Is e the identity? -/
def idAt (t : List (List Int)) (e y : Nat) : Bool := decide (pd t e y = y) && decide (pd t y e = y)
def idB (t : List (List Int)) (e : Nat) : Bool := (List.range t.length).all (idAt t e)
def ident (t : List (List Int)) : Int := fst (idB t) t.length
def invB (t : List (List Int)) (e : Int) (x y : Nat) : Bool := decide (pd t x y = e) && decide (pd t y x = e)
def invs (t : List (List Int)) : List Int := (List.range t.length).map fun x => lst (invB t (ident t) x) t.length
def isG (t : List (List Int)) : Bool := decide (0 ≤ ident t) && (invs t).all fun y => decide (0 ≤ y)
theorem invs_len (t : List (List Int)) : (invs t).length = t.length := by simp [invs]
theorem invs_at {t : List (List Int)} {x : Nat} (h : x < t.length) : (invs t)[x]? = some (lst (invB t (ident t) x) t.length) := by
  simp [invs, h]
theorem ident_lt (t : List (List Int)) : ident t < t.length := by
  unfold ident
  rcases fst_spec (idB t) t.length with ⟨h, _⟩ | ⟨i, h1, _, _, h⟩ <;> rw [h] <;> omega
def invR (t : List (List Int)) : AV := .tup [eN .i64 (if isG t then ident t else 0), LI true (if isG t then invs t else []), eB (isG t)]
theorem take_succ_eq {α : Type} {a b : List α} {i : Nat} (hl : a.length = b.length) (hi : i < a.length) (h : a.take i = b.take i) (e : a[i]? = b[i]?) : a.take (i + 1) = b.take (i + 1) := by
  rw [List.take_add_one, List.take_add_one, h, e]
theorem take_set_lt {α : Type} {a : List α} {i j : Nat} {x : α} (h : j ≤ i) : (a.set i x).take j = a.take j := by
  rw [List.take_set_of_le (by omega)]
theorem set_self {α : Type} {v : List α} {i : Nat} {x : α} (h : v[i]? = some x) : v.set i x = v := by
  obtain ⟨h1, h2⟩ := List.getElem?_eq_some_iff.1 h
  rw [← h2]; exact List.set_getElem_self h1
theorem dlt {a b : Int} (h : a < b) : decide (a < b) = true := decide_eq_true h
theorem inv_l2 {Γ : Ctx} (t : List (List Int)) (hs : sq t) (hl : t.length ≤ 400) (i : Nat) (hi : i < t.length) (g : Nat) :
    W Γ C.group.inverses.L2 (mk 100 [(0, LLI false false t), (5, eN .i64 (-1)), (6, eN .i64 i), (7, eB true), (13, eN .i64 t.length), (14, eN .i64 i), (18, eN .i64 t.length), (19, eN .i64 0)] [none] g)
      (fun e s => e = .exit 2 ∧ ∃ g, s = mk 100 [(0, LLI false false t), (5, eN .i64 (-1)), (6, eN .i64 i), (7, eB (idB t i)), (13, eN .i64 t.length), (14, eN .i64 i)] [none] g) := by
  refine W.for (n := t.length) (fun j st => ∃ g, st = mk 100 [(0, LLI false false t), (5, eN .i64 (-1)), (6, eN .i64 i), (7, eB ((List.range j).all (idAt t i))), (13, eN .i64 t.length), (14, eN .i64 i), (18, eN .i64 t.length), (19, eN .i64 j)] [none] g) ?_ ?_ (Nat.zero_le _) ⟨_, rfl⟩
  · rintro _ ⟨g, rfl⟩
    refine W.go C.group.inverses.l2.eq_1 ?_
    simp only [↓cnd_t, ↓cnd_f, ↓cnf_t, ↓cnf_f, VS, astep, Nat.reduceEqDiff, Nat.reduceAdd, Nat.reduceMul, Nat.reduceLT, Nat.reduceLeDiff, Nat.reduceBEq, Int.reduceLT, reduceCtorEq, decide_true, decide_false, Int.lt_irrefl]
    exact ⟨_, rfl⟩
  · rintro j hj ih _ ⟨g, rfl⟩
    refine W.go C.group.inverses.l2.eq_1 ?_
    have hlt := dlt (show (j : Int) < t.length by omega)
    have r1 := (sq_row hs (x := i) (by omega) (by omega)).1
    have r2 := (sq_row hs (x := j) (by omega) (by omega)).1
    have hw := wr1 (i := j) (by omega)
    simp only [↓cnd_t, ↓cnd_f, ↓cnf_t, ↓cnf_f, VS, astep, Nat.reduceEqDiff, Nat.reduceAdd, Nat.reduceMul, Nat.reduceLT, Nat.reduceLeDiff, Nat.reduceBEq, Int.reduceLT, reduceCtorEq, decide_true, decide_false, Int.lt_irrefl, hlt, hw]
    simp only [r1, r2]
    have fin : ∀ {b : Bool} {g : Nat}, b = (List.range (j + 1)).all (idAt t i) → ∃ g', mk 100 [(0, LLI false false t), (5, eN .i64 (-1)), (6, eN .i64 i), (7, eB b), (13, eN .i64 t.length), (14, eN .i64 i), (18, eN .i64 t.length), (19, eN .i64 (j + 1 : Nat))] [none] g = mk 100 [(0, LLI false false t), (5, eN .i64 (-1)), (6, eN .i64 i), (7, eB ((List.range (j + 1)).all (idAt t i))), (13, eN .i64 t.length), (14, eN .i64 i), (18, eN .i64 t.length), (19, eN .i64 (j + 1 : Nat))] [none] g' := by
      rintro b g' rfl; exact ⟨_, rfl⟩
    have e := all_range_succ (idAt t i) j
    refine ⟨fun h1 => ⟨by omega, by omega, fun h2 => ⟨by omega, by omega, ih _ (fin ?_)⟩, fun h2 => ih _ (fin ?_)⟩, fun h1 => ih _ (fin ?_)⟩
    · rw [Bool.eq_iff_iff]; simp [e, h1, idAt, pd, h2]; exact ⟨fun h => decide_eq_true h, fun h => of_decide_eq_true h⟩
    · rw [e, h1, Bool.true_and, idAt, pd, decide_eq_false h2, Bool.false_and]
    · rw [e, h1, Bool.false_and]
theorem inv_l0 {Γ : Ctx} (t : List (List Int)) (hs : sq t) (hl : t.length ≤ 400) (g : Nat) :
    W Γ C.group.inverses.L0 (mk 100 [(0, LLI false false t), (5, eN .i64 (-1)), (13, eN .i64 t.length), (14, eN .i64 0)] [none] g) (fun e s => e = .exit 0 ∧ ∃ g, s = mk 100 [(0, LLI false false t), (5, eN .i64 (ident t))] [none] g) := by
  refine W.for (n := t.length) (fun i st => ∃ g, (∀ j < i, idB t j = false) ∧ st = mk 100 [(0, LLI false false t), (5, eN .i64 (-1)), (13, eN .i64 t.length), (14, eN .i64 i)] [none] g) ?_ ?_ (Nat.zero_le _) ⟨_, fun j hj => by omega, rfl⟩
  · rintro _ ⟨g, hno, rfl⟩
    refine W.go C.group.inverses.l0.eq_1 ?_
    simp only [↓cnd_t, ↓cnd_f, ↓cnf_t, ↓cnf_f, VS, astep, Nat.reduceEqDiff, Nat.reduceAdd, Nat.reduceMul, Nat.reduceLT, Nat.reduceLeDiff, Nat.reduceBEq, Int.reduceLT, reduceCtorEq, decide_true, decide_false, Int.lt_irrefl]
    exact ⟨_, by rw [show ident t = -1 from fst_none hno]⟩
  · rintro i hi ih _ ⟨g, hno, rfl⟩
    refine W.go C.group.inverses.l0.eq_1 ?_
    have hlt := dlt (show (i : Int) < t.length by omega)
    have hw := wr1 (i := i) (by omega)
    simp only [↓cnd_t, ↓cnd_f, ↓cnf_t, ↓cnf_f, VS, astep, Nat.reduceEqDiff, Nat.reduceAdd, Nat.reduceMul, Nat.reduceLT, Nat.reduceLeDiff, Nat.reduceBEq, Int.reduceLT, reduceCtorEq, decide_true, decide_false, Int.lt_irrefl, hlt]
    refine W.mono (inv_l2 t hs hl i hi _) ?_
    rintro _ _ ⟨rfl, g, rfl⟩
    simp only [↓cnd_t, ↓cnd_f, ↓cnf_t, ↓cnf_f, VS, astep, Nat.reduceEqDiff, Nat.reduceAdd, Nat.reduceMul, Nat.reduceLT, Nat.reduceLeDiff, Nat.reduceBEq, Int.reduceLT, reduceCtorEq, decide_true, decide_false, Int.lt_irrefl, hw]
    refine ⟨fun h => ⟨_, by rw [show ident t = i from fst_some hi h hno]⟩, fun h => ih _ ⟨_, fun j hj => ?_, rfl⟩⟩
    by_cases hji : j = i
    · subst hji; exact h
    · exact hno j (by omega)
theorem inv_l6 {Γ : Ctx} (t : List (List Int)) (hs : sq t) (hl : t.length ≤ 400) (e : Int) (i : Nat) (hi : i < t.length) (g : Nat) (gg : Gen) (v : List Int) (hv : v.length = t.length) (h0 : v[i]? = some (-1)) :
    W Γ C.group.inverses.L6 (mk 100 [(0, LLI false false t), (5, eN .i64 e), (9, .own 0 gg), (10, eN .i64 i), (55, eN .i64 t.length), (56, eN .i64 i), (63, eN .i64 t.length), (64, eN .i64 0)] [some (eM gg Tint 1 t.length (c1 (eN .i64)) v)] g)
      (fun e' s => e' = .exit 6 ∧ ∃ g, s = mk 100 [(0, LLI false false t), (5, eN .i64 e), (9, .own 0 gg), (10, eN .i64 i), (55, eN .i64 t.length), (56, eN .i64 i)] [some (eM gg Tint 1 t.length (c1 (eN .i64)) (v.set i (lst (invB t e i) t.length)))] g) := by
  refine W.for (n := t.length) (fun j st => ∃ g, st = mk 100 [(0, LLI false false t), (5, eN .i64 e), (9, .own 0 gg), (10, eN .i64 i), (55, eN .i64 t.length), (56, eN .i64 i), (63, eN .i64 t.length), (64, eN .i64 j)] [some (eM gg Tint 1 t.length (c1 (eN .i64)) (v.set i (lst (invB t e i) j)))] g) ?_ ?_ (Nat.zero_le _) ⟨g, by rw [show v.set i (lst (invB t e i) 0) = v from set_self h0]; rfl⟩
  · rintro _ ⟨g, rfl⟩
    refine W.go C.group.inverses.l6.eq_1 ?_
    simp only [↓cnd_t, ↓cnd_f, ↓cnf_t, ↓cnf_f, VS, astep, Nat.reduceEqDiff, Nat.reduceAdd, Nat.reduceMul, Nat.reduceLT, Nat.reduceLeDiff, Nat.reduceBEq, Int.reduceLT, reduceCtorEq, decide_true, decide_false, Int.lt_irrefl]
    exact ⟨_, rfl⟩
  · rintro j hj ih _ ⟨g, rfl⟩
    refine W.go C.group.inverses.l6.eq_1 ?_
    have hlt := dlt (show (j : Int) < t.length by omega)
    have r1 := (sq_row hs (x := i) (by omega) (by omega)).1
    have r2 := (sq_row hs (x := j) (by omega) (by omega)).1
    have hw := wr1 (i := j) (by omega)
    simp only [↓cnd_t, ↓cnd_f, ↓cnf_t, ↓cnf_f, VS, astep, Nat.reduceEqDiff, Nat.reduceAdd, Nat.reduceMul, Nat.reduceLT, Nat.reduceLeDiff, Nat.reduceBEq, Int.reduceLT, reduceCtorEq, decide_true, decide_false, Int.lt_irrefl, hlt, hw]
    simp only [r1, r2, List.length_set, hv]
    have fin : ∀ {x : Int} {g : Nat}, x = lst (invB t e i) (j + 1) → ∃ g', mk 100 [(0, LLI false false t), (5, eN .i64 e), (9, .own 0 gg), (10, eN .i64 i), (55, eN .i64 t.length), (56, eN .i64 i), (63, eN .i64 t.length), (64, eN .i64 (j + 1 : Nat))] [some (eM gg Tint 1 t.length (c1 (eN .i64)) (v.set i x))] g = mk 100 [(0, LLI false false t), (5, eN .i64 e), (9, .own 0 gg), (10, eN .i64 i), (55, eN .i64 t.length), (56, eN .i64 i), (63, eN .i64 t.length), (64, eN .i64 (j + 1 : Nat))] [some (eM gg Tint 1 t.length (c1 (eN .i64)) (v.set i (lst (invB t e i) (j + 1))))] g' := by
      rintro x g' rfl; exact ⟨_, rfl⟩
    simp only [Int.toNat_natCast, List.set_set]
    refine ⟨by omega, by omega, fun h1 => ⟨by omega, by omega, fun h2 => ⟨by omega, by omega, ih _ (fin ?_)⟩, fun h2 => ih _ (fin ?_)⟩, fun h1 => ih _ (fin ?_)⟩
    · simp [lst, invB, pd, h1, h2]
    · simp [lst, invB, pd, h2]
    · simp [lst, invB, pd, h1]
theorem fst_nonneg {p : Nat → Bool} {n : Nat} (h : ¬ fst p n < 0) : ∃ i, i < n ∧ p i = true ∧ fst p n = i := by
  rcases fst_spec p n with ⟨h1, _⟩ | ⟨i, h1, h2, _, h3⟩
  · omega
  · exact ⟨i, h1, h2, h3⟩
/-- The list so far, what is not yet set. -/
def upto (l : List Int) (i n : Nat) : List Int := l.take i ++ List.replicate (n - i) 0
theorem upto_len {l : List Int} {i n : Nat} (hl : l.length = n) (hi : i ≤ n) : (upto l i n).length = n := by simp [upto, hl]; omega
theorem upto_set {l : List Int} {i n : Nat} (hl : l.length = n) (hi : i < n) {y : Int} (z : Int) (hy : l[i]? = some y) : ((upto l i n).set i z).set i y = upto l (i + 1) n := by
  rw [List.set_set]
  have ht : (l.take i).length = i := by simp; omega
  obtain ⟨m, hm⟩ : ∃ m, n - i = m + 1 := ⟨n - i - 1, by omega⟩
  rw [upto, upto, hm, List.replicate_succ, List.set_append_right _ _ (by omega), ht, Nat.sub_self, List.set_cons_zero, List.take_add_one, hy, show n - (i + 1) = m by omega]
  simp
theorem inv_l4 {Γ : Ctx} (t : List (List Int)) (hs : sq t) (hl : t.length ≤ 400) (hid : 0 ≤ ident t) (g : Nat) (gg : Gen) :
    W Γ C.group.inverses.L4 (mk 100 [(0, LLI false false t), (5, eN .i64 (ident t)), (9, .own 0 gg), (55, eN .i64 t.length), (56, eN .i64 0)] [some (eM gg Tint 1 t.length (c1 (eN .i64)) (List.replicate t.length 0))] g)
      (fun e s => isG t = false ∧ e = .ret ∧ (∃ g M, s = mk 100 [(2, eN .i64 0), (3, .frz true 1 0 []), (4, eB false)] M g) ∨ isG t = true ∧ e = .exit 4 ∧ ∃ g gg, s = mk 100 [(5, eN .i64 (ident t)), (9, .own 0 gg)] [some (eM gg Tint 1 t.length (c1 (eN .i64)) (invs t))] g) := by
  refine W.for (n := t.length) (fun i st => ∃ g gg, (∀ y ∈ (invs t).take i, 0 ≤ y) ∧ st = mk 100 [(0, LLI false false t), (5, eN .i64 (ident t)), (9, .own 0 gg), (55, eN .i64 t.length), (56, eN .i64 i)] [some (eM gg Tint 1 t.length (c1 (eN .i64)) (upto (invs t) i t.length))] g) ?_ ?_ (Nat.zero_le _) ⟨g, gg, by simp, by simp [upto]⟩
  · rintro _ ⟨g, gg, hno, rfl⟩
    refine W.go C.group.inverses.l4.eq_1 ?_
    simp only [↓cnd_t, ↓cnd_f, ↓cnf_t, ↓cnf_f, VS, astep, Nat.reduceEqDiff, Nat.reduceAdd, Nat.reduceMul, Nat.reduceLT, Nat.reduceLeDiff, Nat.reduceBEq, Int.reduceLT, reduceCtorEq, decide_true, decide_false, Int.lt_irrefl]
    have hg : isG t = true := by
      simp only [isG, Bool.and_eq_true, decide_eq_true_eq, List.all_eq_true]
      exact ⟨hid, take_all hno (invs_len t).symm⟩
    refine .inr ⟨hg, g + 1, gg, ?_⟩
    rw [show upto (invs t) t.length t.length = invs t by rw [upto, Nat.sub_self, List.replicate_zero, List.append_nil, List.take_of_length_le (by rw [invs_len]; omega)]]
  · rintro i hi ih _ ⟨g, gg, hno, rfl⟩
    refine W.go C.group.inverses.l4.eq_1 ?_
    have hlt := dlt (show (i : Int) < t.length by omega)
    have hw := wr1 (i := i) (by omega)
    have hul := upto_len (invs_len t) (Nat.le_of_lt hi)
    simp only [↓cnd_t, ↓cnd_f, ↓cnf_t, ↓cnf_f, VS, astep, Nat.reduceEqDiff, Nat.reduceAdd, Nat.reduceMul, Nat.reduceLT, Nat.reduceLeDiff, Nat.reduceBEq, Int.reduceLT, reduceCtorEq, decide_true, decide_false, Int.lt_irrefl, hlt]
    simp only [hul]
    simp only [Int.toNat_natCast]
    refine ⟨by omega, by omega, ?_⟩
    refine W.mono (inv_l6 t hs hl (ident t) i hi _ _ _ (by simp [hul]) (by rw [List.getElem?_set_self (by omega)])) ?_
    rintro _ _ ⟨rfl, g, rfl⟩
    have hat := invs_at hi
    simp only [↓cnd_t, ↓cnd_f, ↓cnf_t, ↓cnf_f, VS, astep, Nat.reduceEqDiff, Nat.reduceAdd, Nat.reduceMul, Nat.reduceLT, Nat.reduceLeDiff, Nat.reduceBEq, Int.reduceLT, reduceCtorEq, decide_true, decide_false, Int.lt_irrefl, hw]
    simp only [upto_set (invs_len t) hi (-1) hat, upto_len (invs_len t) (show i + 1 ≤ t.length by omega)]
    have hgt : gt (upto (invs t) (i + 1) t.length) (i : Int) = lst (invB t (ident t) i) t.length := by
      have h1 : (upto (invs t) (i + 1) t.length)[i]? = some (lst (invB t (ident t) i) t.length) := by
        rw [upto, List.getElem?_append_left (by simp [invs_len]; omega), List.getElem?_take_of_lt (by omega)]; exact hat
      unfold gt; rw [List.getD_eq_getElem?_getD, Int.toNat_natCast, h1]; rfl
    simp only [hgt]
    refine ⟨by omega, by omega, fun h => ?_, fun h => ?_⟩
    · refine .inl ⟨?_, _, _, rfl⟩
      simp only [isG, Bool.and_eq_false_iff, List.all_eq_false, decide_eq_false_iff_not]
      exact .inr ⟨_, List.mem_of_getElem? hat, by simp only [decide_eq_true_eq]; omega⟩
    · refine ih _ ⟨_, _, fun y hy => ?_, rfl⟩
      rw [List.take_add_one, hat] at hy
      simp only [Option.toList_some, List.mem_append, List.mem_singleton] at hy
      rcases hy with hy | rfl
      · exact hno y hy
      · omega
theorem run_inverses {Γ : Ctx} (t : List (List Int)) (hs : sq t) (hl : t.length ≤ 400) : Run Γ C.group.inverses.top C.group.inverses.rs 100 1 [LLI false false t] (invR t) := by
  refine Run.of C.group.inverses.top.eq_1 (by simp) ?_
  simp only [↓cnd_t, ↓cnd_f, ↓cnf_t, ↓cnf_f, VS, astep, Nat.reduceEqDiff, Nat.reduceAdd, Nat.reduceMul, Nat.reduceLT, Nat.reduceLeDiff, Nat.reduceBEq, Int.reduceLT, reduceCtorEq, decide_true, decide_false, Int.lt_irrefl, enum, C.group.inverses.rs]
  refine W.mono (inv_l0 t hs hl _) ?_
  rintro _ _ ⟨rfl, g, rfl⟩
  simp only [↓cnd_t, ↓cnd_f, ↓cnf_t, ↓cnf_f, VS, astep, Nat.reduceEqDiff, Nat.reduceAdd, Nat.reduceMul, Nat.reduceLT, Nat.reduceLeDiff, Nat.reduceBEq, Int.reduceLT, reduceCtorEq, decide_true, decide_false, Int.lt_irrefl]
  refine ⟨fun h => ?_, fun h => ⟨by omega, ?_⟩⟩
  · have hg : isG t = false := by simp [isG]; omega
    refine ends_3 (by decide) (by decide) (by decide) ?_ ?_ ?_ <;> simp only [hg]
    · exact .lit _
    · exact cv_LI (l := []) fun _ => ⟨rfl, rfl⟩
    · exact .lit _
  · simp only [Int.toNat_natCast, fill_nil]
    refine W.mono (inv_l4 t hs hl (by omega) _ _) ?_
    rintro _ _ (⟨hg, rfl, g, M, rfl⟩ | ⟨hg, rfl, g, gg, rfl⟩)
    · simp only [↓cnd_t, ↓cnd_f, ↓cnf_t, ↓cnf_f, VS, astep, Nat.reduceEqDiff, Nat.reduceAdd, Nat.reduceMul, Nat.reduceLT, Nat.reduceLeDiff, Nat.reduceBEq, Int.reduceLT, reduceCtorEq, decide_true, decide_false, Int.lt_irrefl]
      refine ends_3 (by decide) (by decide) (by decide) ?_ ?_ ?_ <;> simp only [hg]
      · exact .lit _
      · exact cv_LI (l := []) fun _ => ⟨rfl, rfl⟩
      · exact .lit _
    · simp only [↓cnd_t, ↓cnd_f, ↓cnf_t, ↓cnf_f, VS, astep, Nat.reduceEqDiff, Nat.reduceAdd, Nat.reduceMul, Nat.reduceLT, Nat.reduceLeDiff, Nat.reduceBEq, Int.reduceLT, reduceCtorEq, decide_true, decide_false, Int.lt_irrefl]
      refine ends_3 (by decide) (by decide) (by decide) ?_ ?_ ?_ <;> simp only [hg]
      · exact .lit _
      · exact cv_mI bk0 (invs_len t).symm (fun _ => rfl)
      · exact .lit _
end Go.Proofs.YtbpajecjaoefaaaGreat.V

/- Groups given by tables, in plain words. -/




namespace Go.Proofs.YtbpajecjaoefaaaGreat.V

open Go

def inE (t : List (List Int)) (x : Int) : Prop := 0 ≤ x ∧ x < t.length
instance (t : List (List Int)) (x : Int) : Decidable (inE t x) := by unfold inE; exact inferInstance
/-- Is it a group? -/
def grp (t : List (List Int)) : Bool := decide (val t = 0) && isG t
structure Grp (t : List (List Int)) (e : Int) : Prop where
  s : sq t
  n : t.length ≤ 400
  a : ∀ x y z, inE t x → inE t y → inE t z → pd t (pd t x y) z = pd t x (pd t y z)
  ee : inE t e
  l : ∀ x, inE t x → pd t e x = x
  r : ∀ x, inE t x → pd t x e = x
  i : ∀ x, inE t x → ∃ y, inE t y ∧ pd t x y = e ∧ pd t y x = e
theorem inE_nat {t : List (List Int)} {x : Int} (h : inE t x) : ∃ n : Nat, n < t.length ∧ x = n := ⟨x.toNat, by obtain ⟨a, b⟩ := h; omega, by obtain ⟨a, b⟩ := h; omega⟩
theorem inE_of {t : List (List Int)} {n : Nat} (h : n < t.length) : inE t (n : Int) := ⟨by omega, by omega⟩
theorem val_0 {t : List (List Int)} (h : val t = 0) : sq t ∧ assoc t ∧ 1 ≤ t.length ∧ t.length ≤ 400 := by
  unfold val at h
  split at h
  · rename_i h1
    split at h
    · rename_i h2; obtain ⟨a, b, c⟩ := shp_0 h1; exact ⟨a, h2, b, c⟩
    · cases h
  · exact absurd h (by assumption)
theorem sq_in {t : List (List Int)} (h : sq t) {x y : Int} (hx : inE t x) (hy : inE t y) : inE t (pd t x y) := sq_pd h hx.1 hx.2 hy.1 hy.2
theorem assoc_in {t : List (List Int)} (h : assoc t) {x y z : Int} (hx : inE t x) (hy : inE t y) (hz : inE t z) : pd t (pd t x y) z = pd t x (pd t y z) := by
  obtain ⟨x, h1, rfl⟩ := inE_nat hx; obtain ⟨y, h2, rfl⟩ := inE_nat hy; obtain ⟨z, h3, rfl⟩ := inE_nat hz
  exact h x h1 y h2 z h3
theorem idB_iff {t : List (List Int)} {e : Nat} : idB t e = true ↔ ∀ y, inE t y → pd t e y = y ∧ pd t y e = y := by
  simp only [idB, List.all_eq_true, List.mem_range, idAt, Bool.and_eq_true, decide_eq_true_eq]
  constructor
  · intro h y hy
    obtain ⟨y, h1, rfl⟩ := inE_nat hy
    exact h y h1
  · intro h y hy; exact h y (inE_of hy)
theorem invB_iff {t : List (List Int)} {e : Int} {x y : Nat} : invB t e x y = true ↔ pd t x y = e ∧ pd t y x = e := by simp [invB]
theorem ident_ge {t : List (List Int)} (h : 0 ≤ ident t) : inE t (ident t) ∧ ∀ y, inE t y → pd t (ident t) y = y ∧ pd t y (ident t) = y := by
  obtain ⟨i, h1, h2, h3⟩ := fst_nonneg (p := idB t) (n := t.length) (by unfold ident at h; omega)
  have : ident t = i := h3
  rw [this]
  exact ⟨inE_of h1, idB_iff.1 h2⟩
theorem grp_Grp {t : List (List Int)} (h : grp t = true) : Grp t (ident t) := by
  simp only [grp, Bool.and_eq_true, decide_eq_true_eq, isG] at h
  obtain ⟨h1, h2, h3⟩ := h
  obtain ⟨a, b, c, d⟩ := val_0 h1
  obtain ⟨e1, e2⟩ := ident_ge h2
  refine ⟨a, d, fun x y z => assoc_in b, e1, fun x hx => (e2 x hx).1, fun x hx => (e2 x hx).2, fun x hx => ?_⟩
  obtain ⟨x, hn, rfl⟩ := inE_nat hx
  rw [List.all_eq_true] at h3
  have := h3 _ (List.mem_of_getElem? (invs_at hn))
  simp only [decide_eq_true_eq] at this
  rcases lst_spec (invB t (ident t) x) t.length with ⟨h4, _⟩ | ⟨y, h4, h5, h6⟩
  · omega
  · exact ⟨y, inE_of h4, invB_iff.1 h5⟩
section

variable {t : List (List Int)} {e : Int} (G : Grp t e)
include G
theorem Grp.p {x y : Int} (hx : inE t x) (hy : inE t y) : inE t (pd t x y) := sq_in G.s hx hy
theorem Grp.cl {x a b : Int} (hx : inE t x) (ha : inE t a) (hb : inE t b) (h : pd t x a = pd t x b) : a = b := by
  obtain ⟨y, hy, _, h2⟩ := G.i x hx
  have := congrArg (pd t y) h
  rwa [← G.a _ _ _ hy hx ha, ← G.a _ _ _ hy hx hb, h2, G.l a ha, G.l b hb] at this
theorem Grp.cr {x a b : Int} (hx : inE t x) (ha : inE t a) (hb : inE t b) (h : pd t a x = pd t b x) : a = b := by
  obtain ⟨y, hy, h2, _⟩ := G.i x hx
  have : pd t (pd t a x) y = pd t (pd t b x) y := by rw [h]
  rwa [G.a _ _ _ ha hx hy, G.a _ _ _ hb hx hy, h2, G.r a ha, G.r b hb] at this
theorem Grp.iu {x a b : Int} (hx : inE t x) (ha : inE t a) (hb : inE t b) (h : pd t x a = e) (h' : pd t x b = e) : a = b := G.cl hx ha hb (by rw [h, h'])
theorem Grp.eu {a : Int} (ha : inE t a) (h : pd t a a = a) : a = e := G.cl ha ha G.ee (by rw [h, G.r a ha])
end

/-- The inverse of an element. -/
def iv (t : List (List Int)) (x : Int) : Int := lst (invB t (ident t) x.toNat) t.length
theorem iv_spec {t : List (List Int)} (h : grp t = true) {x : Int} (hx : inE t x) : inE t (iv t x) ∧ pd t x (iv t x) = ident t ∧ pd t (iv t x) x = ident t := by
  have G := grp_Grp h
  obtain ⟨x, hx', rfl⟩ := inE_nat hx
  unfold iv
  rw [Int.toNat_natCast]
  obtain ⟨y, hy, h1, h2⟩ := G.i x hx
  obtain ⟨y, hy', rfl⟩ := inE_nat hy
  rcases lst_spec (invB t (ident t) x) t.length with ⟨_, h4⟩ | ⟨z, h4, h5, h6⟩
  · have := h4 y hy'; rw [invB_iff.2 ⟨h1, h2⟩] at this; cases this
  · rw [h6]; exact ⟨inE_of h4, invB_iff.1 h5⟩
/-- The reference's inverse. -/
def ivr (t : List (List Int)) (x : Int) : Int := fst (invB t (ident t) x.toNat) t.length
theorem ivr_eq {t : List (List Int)} (h : grp t = true) {x : Int} (hx : inE t x) : ivr t x = iv t x := by
  have G := grp_Grp h
  obtain ⟨a, b, c⟩ := iv_spec h hx
  obtain ⟨x, hx', rfl⟩ := inE_nat hx
  unfold ivr
  rw [Int.toNat_natCast]
  obtain ⟨y, hy, e⟩ := inE_nat a
  rw [e] at b c ⊢
  rcases fst_spec (invB t (ident t) x) t.length with ⟨_, h4⟩ | ⟨z, h4, h5, _, h6⟩
  · have := h4 y hy; rw [invB_iff.2 ⟨b, c⟩] at this; cases this
  · rw [h6]
    exact G.iu (inE_of hx') (inE_of h4) (inE_of hy) (invB_iff.1 h5).1 b
/-- Does the reference say that it is a group? -/
def rgrp (t : List (List Int)) : Bool := decide (val t = 0) && (decide (0 ≤ ident t) && (List.range t.length).all fun x => decide (0 ≤ ivr t (x : Nat)))
theorem rgrp_eq (t : List (List Int)) : rgrp t = grp t := by
  unfold rgrp grp isG
  congr 2
  rw [Bool.eq_iff_iff, List.all_eq_true, List.all_eq_true]
  have key : ∀ x < t.length, (0 ≤ lst (invB t (ident t) x) t.length ↔ 0 ≤ ivr t (x : Nat)) := by
    intro x hx
    unfold ivr
    rw [Int.toNat_natCast]
    rcases fst_spec (invB t (ident t) x) t.length with ⟨h1, h2⟩ | ⟨z, h4, h5, _, h6⟩
    · rcases lst_spec (invB t (ident t) x) t.length with ⟨h3, _⟩ | ⟨y, h7, h8, _⟩
      · rw [h1, h3]
      · rw [h2 y h7] at h8; cases h8
    · rcases lst_spec (invB t (ident t) x) t.length with ⟨_, h3⟩ | ⟨y, h7, h8, h9⟩
      · rw [h3 z h4] at h5; cases h5
      · rw [h6, h9]; constructor <;> intro _ <;> omega
  refine Iff.intro (fun h y hy => ?_) (fun h x hx => ?_)
  · simp only [invs, List.mem_map, List.mem_range] at hy
    obtain ⟨x, hn, rfl⟩ := hy
    have := h x (List.mem_range.2 hn)
    simp only [decide_eq_true_eq] at this ⊢
    exact (key x hn).2 this
  · have hn := List.mem_range.1 hx
    have := h _ (List.mem_of_getElem? (invs_at hn))
    simp only [decide_eq_true_eq] at this ⊢
    exact (key x hn).1 this
/-- Two of n + 1 places hold one of n values. -/
theorem pigeon : ∀ (n : Nat) (f : Nat → Nat), (∀ i ≤ n, f i < n) → ∃ i j, i < j ∧ j ≤ n ∧ f i = f j
  | 0, f, h => absurd (h 0 (Nat.le_refl _)) (by omega)
  | n + 1, f, h => by
    by_cases hc : ∃ i, i < n + 1 ∧ f i = f (n + 1)
    · obtain ⟨i, hi, e⟩ := hc
      exact ⟨i, n + 1, hi, Nat.le_refl _, e⟩
    · have hc' : ∀ i, i < n + 1 → f i ≠ f (n + 1) := fun i hi e => hc ⟨i, hi, e⟩
      obtain ⟨i, j, h1, h2, h3⟩ := pigeon n (fun i => if f i < f (n + 1) then f i else f i - 1) (fun i hi => by
        have a := h i (by omega); have b := h (n + 1) (Nat.le_refl _); have c := hc' i (by omega)
        split <;> omega)
      refine ⟨i, j, h1, by omega, ?_⟩
      have a := hc' i (by omega); have b := hc' j (by omega)
      split at h3 <;> split at h3 <;> omega
/-- Powers: x, xx, and so on. -/
def pw (t : List (List Int)) (x : Int) : Nat → Int
  | 0 => x
  | k + 1 => pd t (pw t x k) x
section

variable {t : List (List Int)} {e : Int} (G : Grp t e)
include G
theorem Grp.pw {x : Int} (hx : inE t x) : ∀ k, inE t (pw t x k)
  | 0 => hx
  | k + 1 => G.p (Grp.pw hx k) hx
theorem Grp.pw_add {x : Int} (hx : inE t x) (i : Nat) : ∀ j, pd t (V.pw t x i) (V.pw t x j) = V.pw t x (i + j + 1)
  | 0 => rfl
  | j + 1 => by
    show pd t (V.pw t x i) (pd t (V.pw t x j) x) = _
    rw [← G.a _ _ _ (G.pw hx i) (G.pw hx j) hx, Grp.pw_add hx i j]; rfl
theorem Grp.pw_back {x : Int} (hx : inE t x) {i j : Nat} (h : i < j) (he : V.pw t x i = V.pw t x j) : V.pw t x (j - i - 1) = e := by
  refine G.cl (G.pw hx i) (G.pw hx _) G.ee ?_
  rw [G.pw_add hx, G.r _ (G.pw hx i), show i + (j - i - 1) + 1 = j by omega, he]
theorem Grp.pw_e {x : Int} (hx : inE t x) : ∃ k, k < t.length ∧ V.pw t x k = e := by
  obtain ⟨i, j, h1, h2, h3⟩ := pigeon t.length (fun k => (V.pw t x k).toNat) (fun k _ => by have := G.pw hx k; obtain ⟨a, b⟩ := this; omega)
  have e1 : V.pw t x i = V.pw t x j := by
    have a := G.pw hx i; have b := G.pw hx j
    obtain ⟨a1, a2⟩ := a; obtain ⟨b1, b2⟩ := b; omega
  exact ⟨j - i - 1, by omega, G.pw_back hx h1 e1⟩
end

/-- The order, less one. -/
def ordI (t : List (List Int)) (x : Int) : Nat := (fst (fun k => decide (pw t x k = ident t)) t.length).toNat
theorem ordI_spec {t : List (List Int)} (h : grp t = true) {x : Int} (hx : inE t x) : ordI t x < t.length ∧ pw t x (ordI t x) = ident t ∧ ∀ j < ordI t x, pw t x j ≠ ident t := by
  have G := grp_Grp h
  obtain ⟨k, hk, e⟩ := G.pw_e hx
  unfold ordI
  rcases fst_spec (fun k => decide (pw t x k = ident t)) t.length with ⟨_, h2⟩ | ⟨i, h1, h2, h3, h4⟩
  · have := h2 k hk; simp [e] at this
  · rw [h4, Int.toNat_natCast]
    exact ⟨h1, by simpa using h2, fun j hj => by simpa using h3 j hj⟩
end Go.Proofs.YtbpajecjaoefaaaGreat.V

/- The library's sort of numbers, as a call that writes a row of the call's own. -/






namespace Go.Proofs.YtbpajecjaoefaaaGreat.V

open Go Go.RowKit Go.Sort Go.Proofs.Tryz

namespace XS

section

variable {α β : Type} {enc : β → Value} {w : World} {g : Nat} {cur : Array Value} {e : TypeId} [Inhabited β]

/-- The block of the row, behind the sort. -/
theorem block_after {n : Nat} {os : Array Obj} {fr : Nat × Nat} (d : Array β) (hb : w.heap[g]? = some (.cells cur e fr)) :
    (grow (putRow enc (Sort.ahead w n) g 0 d) os).heap[g]? = some (.cells (putCells enc 0 d cur) e fr) := by
  obtain ⟨hg, _⟩ := Array.getElem?_eq_some_iff.1 hb
  simp only [grow, putRow, mapBlock, Sort.ahead]
  rw [Array.getElem?_append_left (by simpa using hg), Array.getElem?_modify, if_pos rfl, hb]
  rfl
/-- No other block of before turns. -/
theorem others_after {n : Nat} {os : Array Obj} (d : Array β) : w.grownBy (grow (putRow enc (Sort.ahead w n) g 0 d) os) (some g) where
  os := rfl
  tape := rfl
  output := rfl
  size := by simp only [grow, putRow, mapBlock, Sort.ahead, Array.size_append, Array.size_modify]; omega
  block := fun k hk hne => by
    simp only [grow, putRow, mapBlock, Sort.ahead]
    rw [Array.getElem?_append_left (by simpa using hk), Array.getElem?_modify, if_neg (fun e => hne (congrArg some e.symm))]
/-- Its cells, one by one. -/
theorem cell_after (ts : List β) (hc : ts.length ≤ cur.size) (j : Nat) (hj : j < ts.length) : (putCells enc 0 ts.toArray cur).toList[j]? = some (enc ts[j]) := by
  have hjc : j < cur.size := Nat.lt_of_lt_of_le hj hc
  rw [Array.getElem?_toList]
  simp [putCells, hj, hjc]
theorem holds_of (ss : List β) (hb : w.heap[g]? = some (.cells cur e (0, 0))) (ht : cur.toList.take ss.length = ss.map enc) : Holds enc w g 0 ss.toArray := fun j hj => by
  have hj' : j < ss.length := by simpa using hj
  have hc : cur[j]? = some (enc ss[j]) := by
    have h := congrArg (fun l : List Value => l[j]?) ht
    simpa [hj'] using h
  refine ⟨?_, by simp [World.frozen?, hb]⟩
  rw [Nat.zero_add, cell_of_row w g _ _ e (0, 0) hb, hc]
  simp [hj']
theorem row_of {base cap n : Nat} {os : Array Obj} {ss ts : List β} (hl : ts.length = ss.length) (hbase : base ≤ g) (hb : w.heap[g]? = some (.cells cur e (0, 0)))
    (h1 : ss.length ≤ cap) (h2 : cap ≤ maxLen) (h3 : cur.size = cap * 1) :
    (grow (putRow enc (Sort.ahead w n) g 0 ts.toArray) os).ownsRow base e 1 (.slice (some ⟨g, 0, none⟩) ss.length cap) ss.length (ts.map enc) := by
  refine ⟨by rw [List.length_map, hl, Nat.mul_one], .inr ⟨g, cap, putCells enc 0 ts.toArray cur, rfl, hbase, block_after _ hb, h1, h2, by simpa [putCells] using h3, ?_⟩⟩
  refine List.ext_getElem? fun j => ?_
  by_cases hj : j < ts.length
  · rw [List.getElem?_take_of_lt (by omega), cell_after ts (by omega) j hj, List.getElem?_map, List.getElem?_eq_getElem hj]
    rfl
  · rw [List.getElem?_eq_none (by rw [List.length_take]; omega), List.getElem?_eq_none (by rw [List.length_map]; omega)]
end

end XS

def srt (l : List Int) : List Int := l.mergeSort fun x y => decide (x ≤ y)
theorem srt_len (l : List Int) : (srt l).length = l.length := by simp [srt]
theorem Cs_ints {X : Claims} {s0 : Nat} {H : Heads} : ∀ {l : List Int} {xs : List Value}, Cs X s0 H (l.flatMap (c1 (eN .i64))) xs → xs = l.map (Value.int .i64)
  | [], xs, h => List.eq_nil_of_length_eq_zero (by rw [h.len]; rfl)
  | z :: l, [], h => by have := h.len; simp [c1] at this
  | z :: l, x :: xs, h => by
    have h0 := h.at_ 0 (eN .i64 z) x rfl rfl
    cases h0
    have : Cs X s0 H (l.flatMap (c1 (eN .i64))) xs := ⟨by have := h.len; simp [c1] at this ⊢; omega, fun j y v hy hv => h.at_ (j + 1) y v (by simpa [c1] using hy) (by simpa using hv)⟩
    rw [Cs_ints this]; rfl
theorem Cs_of_ints {X : Claims} {s0 : Nat} {H : Heads} : ∀ (l : List Int), Cs X s0 H (l.flatMap (c1 (eN .i64))) (l.map (Value.int .i64))
  | [] => ⟨rfl, fun j y v hy => by simp at hy⟩
  | z :: l => by
    have ih := Cs_of_ints (X := X) (s0 := s0) (H := H) l
    refine ⟨by have := ih.len; simp [c1] at this ⊢; omega, fun j y v hy hv => ?_⟩
    cases j with
    | zero => simp [c1] at hy hv; subst hy; subst hv; exact .lit _
    | succ j => exact ih.at_ j y v (by simpa [c1] using hy) (by simpa using hv)
theorem enters_some {P : Program} {f : FuncId} {fn : Func} (hf : P.funcs[f]? = some fn) (hn : (fn.name == "runtime.NumGoroutine") = false) (hb : fn.body.isSome = true) : Enters P f := by
  cases e : fn.body with
  | none => rw [e] at hb; cases hb
  | some c => exact enters_of hf hn e
def S_sortInts (_ : Nat) (st : St) (xs : List AV) (r : AV) (M' : List (Option Blk)) : Prop :=
  ∃ (id : Nat) (g : Gen) (e : TypeId) (l : List Int), l.length < 2 ^ 61 ∧ xs = [.own id g] ∧ st.M[id]? = some (some (eR g e 1 (c1 (eN .i64)) l)) ∧ r = .tup [] ∧ M' = st.M.set id (some (eR g e 1 (c1 (eN .i64)) (srt l)))
theorem fsp_sortInts : Fsp prog ⟨F_sort_Ints, S_sortInts⟩ := by
  refine ⟨?_, enters_some (by kernel_rfl : prog.funcs[F_sort_Ints]? = some f82) (by kernel_rfl) (by kernel_rfl)⟩
  rintro i st _ _ _ ⟨id, g, e, l, hl, rfl, hM, rfl, rfl⟩ s0 S w0 D X H a w vals hq hS _ hC
  obtain ⟨u, hu⟩ : ∃ u, vals = #[u] := by
    have := hC.len
    have h2 : vals.size = 1 := by simpa using this
    exact ⟨vals[0], by apply Array.ext <;> simp [h2]; intro i p; subst p; rfl⟩
  subst hu
  have h0 := hC.at_ 0 _ u rfl rfl
  obtain ⟨v, xs, h1, h2, h3, h4, h5⟩ := hS.blks id _ hM
  cases h0 with
  | own b1 b2 =>
    obtain rfl : v = u := by rw [h1] at b1; injection b1
    have hx := Cs_ints h3
    subst hx
    have hmap : ∀ z : List Int, z.map (Value.int .i64) = z.map (Value.int .i64) := fun _ => rfl
    rcases h2.2 with ⟨hv, hn⟩ | ⟨b, cap, cur, rfl, hbase, hb, a1, a2, a3, a4⟩
    · subst hv
      obtain rfl : l = [] := List.eq_nil_of_length_eq_zero hn
      refine (Tryz.sort_Ints_none none 0 w).mono ?_
      rintro e' w' ⟨rfl, rfl⟩
      refine ⟨_, X, H, rfl, ?_, .tup rfl fun j x v hx => by simp at hx⟩
      have hself : st.M.set id (some (eR g e 1 (c1 (eN .i64)) (srt []))) = st.M := by
        obtain ⟨hlt, hgt⟩ := List.getElem?_eq_some_iff.1 hM
        have : srt [] = [] := by simp [srt]
        rw [this, ← hgt]; exact List.set_getElem_self hlt
      rw [hself]
      exact hS.done fun _ => Or.inl
    · have ht : cur.toList.take l.length = l.map (Value.int .i64) := by
        have := a4
        simpa using this
      refine (Tryz.sort_Ints b 0 cap l w (XS.holds_of _ hb ht) (Array.getElem?_eq_some_iff.1 hb).1 (by omega)).mono ?_
      rintro e' w' ⟨rfl, n', os, rfl⟩
      have hg := XS.others_after (enc := Value.int .i64) (w := w) (g := b) (n := n') (os := os) (srt l).toArray
      have hr := XS.row_of (enc := Value.int .i64) (n := n') (os := os) (ss := l) (ts := srt l) (srt_len _) hbase hb a1 a2 a3
      refine ⟨_, X, H, rfl, Sim.done (D' := fun j => D j ∨ j = i) (hS.same (B' := eR g e 1 (c1 (eN .i64)) (srt l)) hM h1 (q_false hq) hg rfl ?_) fun _ => Or.inl, .tup rfl fun j x v hx => by simp at hx⟩
      refine ⟨_, _, h1, by rw [srt_len]; exact hr, Cs_of_ints _, by omega, fun b' hb' => h5 b' hb'⟩
end Go.Proofs.YtbpajecjaoefaaaGreat.V

/- The lexicographic order, and the closures that sort by it. -/




namespace Go.Proofs.YtbpajecjaoefaaaGreat.V

open Go Go.RowKit Go.Proofs.Tryz

def lexL : List Int → List Int → Bool
  | [], [] => false
  | [], _ :: _ => true
  | _ :: _, [] => false
  | x :: a, y :: b => if x = y then lexL a b else decide (x < y)
theorem lexL_step {a b : List Int} {i : Nat} (ha : i < a.length) (hb : i < b.length) (e : a[i] = b[i]) : lexL (a.drop i) (b.drop i) = lexL (a.drop (i + 1)) (b.drop (i + 1)) := by
  rw [List.drop_eq_getElem_cons ha, List.drop_eq_getElem_cons hb, lexL, if_pos e]
theorem lexL_ne {a b : List Int} {i : Nat} (ha : i < a.length) (hb : i < b.length) (e : ¬ a[i] = b[i]) : lexL (a.drop i) (b.drop i) = decide (a[i] < b[i]) := by
  rw [List.drop_eq_getElem_cons ha, List.drop_eq_getElem_cons hb, lexL, if_neg e]
theorem lexL_end {a b : List Int} {i : Nat} (h : i = a.length ∨ i = b.length) (ha : i ≤ a.length) (hb : i ≤ b.length) : lexL (a.drop i) (b.drop i) = decide (a.length < b.length) := by
  by_cases ha' : i < a.length
  · have : i = b.length := by omega
    rw [List.drop_eq_getElem_cons ha', List.drop_of_length_le (by omega : b.length ≤ i), lexL, decide_eq_false (by omega)]
  · rw [List.drop_of_length_le (by omega : a.length ≤ i)]
    by_cases hb' : i < b.length
    · rw [List.drop_eq_getElem_cons hb', lexL, decide_eq_true (by omega)]
    · rw [List.drop_of_length_le (by omega : b.length ≤ i), lexL, decide_eq_false (by omega)]
theorem Less_l0 {Γ : Ctx} (a b : List Int) (hla : a.length < 2 ^ 61) (hlb : b.length < 2 ^ 61) {Q : Exit → St → Prop} (hr : ∀ g, Q .ret (mk 41 [(4, eB (lexL a b))] [] g)) (hy : ∀ g, lexL a b = decide (a.length < b.length) → Q (.exit 0) (mk 41 [(0, LI false a), (1, LI false b)] [] g)) :
    ∀ (m i g : Nat), i + m = min a.length b.length → lexL a b = lexL (a.drop i) (b.drop i) → W Γ C.ref03.Less.L0 (mk 41 [(0, LI false a), (1, LI false b), (5, eN .i64 i)] [] g) Q := by
  intro m
  induction m with
  | zero =>
    intro i g hi ht
    refine W.go C.ref03.Less.l0.eq_1 ?_
    simp only [↓cnd_t, ↓cnd_f, ↓cnf_t, ↓cnf_f, VS, astep, Nat.reduceEqDiff, Nat.reduceAdd, Nat.reduceMul, Nat.reduceLT, Nat.reduceLeDiff, Nat.reduceBEq, Int.reduceLT, reduceCtorEq]
    have e : lexL a b = decide (a.length < b.length) := by rw [ht, lexL_end (by omega) (by omega) (by omega)]
    exact ⟨fun h => ⟨fun h2 => by omega, fun h2 => hy _ e⟩, fun h => hy _ e⟩
  | succ m ih =>
    intro i g hi ht
    refine W.go C.ref03.Less.l0.eq_1 ?_
    simp only [↓cnd_t, ↓cnd_f, ↓cnf_t, ↓cnf_f, VS, astep, Nat.reduceEqDiff, Nat.reduceAdd, Nat.reduceMul, Nat.reduceLT, Nat.reduceLeDiff, Nat.reduceBEq, Int.reduceLT, reduceCtorEq]
    have ha : i < a.length := by omega
    have hb : i < b.length := by omega
    have ga : gt a i = a[i] := gt_nat ha
    have gb : gt b i = b[i] := gt_nat hb
    have hw : IntKind.i64.wrap (↑i + 1) = ((i + 1 : Nat) : Int) := by rw [wr_in (by omega) (by omega)]; simp
    simp only [ga, gb, hw]
    refine ⟨fun _ => ⟨fun _ => ⟨by omega, by omega, fun hne => ⟨by omega, by omega, ?_⟩, fun he => ?_⟩, fun h => by omega⟩, fun h => by omega⟩
    · have := hr (g + 1 + 1 + 1)
      rw [ht, lexL_ne ha hb hne] at this
      exact this
    · exact ih (i + 1) _ (by omega) (by rw [ht, lexL_step ha hb he])
theorem run_Less {Γ : Ctx} (a b : List Int) (hla : a.length < 2 ^ 61) (hlb : b.length < 2 ^ 61) : Run Γ C.ref03.Less.top C.ref03.Less.rs 41 0 [LI false a, LI false b] (eB (lexL a b)) := by
  refine Run.of C.ref03.Less.top.eq_1 (by simp) ?_
  simp only [↓cnd_t, ↓cnd_f, ↓cnf_t, ↓cnf_f, VS, astep, Nat.reduceEqDiff, Nat.reduceAdd, Nat.reduceMul, Nat.reduceLT, Nat.reduceLeDiff, Nat.reduceBEq, Int.reduceLT, reduceCtorEq, enum, C.ref03.Less.rs]
  refine Less_l0 a b hla hlb ?_ ?_ (min a.length b.length) 0 _ (by omega) (by simp)
  · intro g
    simp only [↓cnd_t, ↓cnd_f, ↓cnf_t, ↓cnf_f, VS, astep, Nat.reduceEqDiff, Nat.reduceAdd, Nat.reduceMul, Nat.reduceLT, Nat.reduceLeDiff, Nat.reduceBEq, Int.reduceLT, reduceCtorEq]
    exact ends_b (by decide) rfl rfl
  · intro g e
    simp only [↓cnd_t, ↓cnd_f, ↓cnf_t, ↓cnf_f, VS, astep, Nat.reduceEqDiff, Nat.reduceAdd, Nat.reduceMul, Nat.reduceLT, Nat.reduceLeDiff, Nat.reduceBEq, Int.reduceLT, reduceCtorEq]
    refine ends_b (by decide) rfl ?_
    rw [e]; congr 1; exact propext (by omega)
def R_Less (args : List AV) (r : AV) : Prop := ∃ a b : List Int, a.length < 2 ^ 61 ∧ b.length < 2 ^ 61 ∧ args = [LI false a, LI false b] ∧ r = eB (lexL a b)
theorem fq_rLess : Fq prog ⟨F_ref03_Less, false, R_Less⟩ := C.ref03.Less.fq (es := []) trivial (by kernel_rfl) <| by
  rintro _ _ ⟨a, b, hl, hl', rfl, rfl⟩
  exact ⟨run_Less a b hl hl', fun _ => .lit _⟩
theorem fq_lessList : Fq prog ⟨F_group_lessList, false, R_Less⟩ := C.group.lessList.fq (es := []) trivial (by kernel_rfl) <| by
  rintro _ _ ⟨a, b, hl, hl', rfl, rfl⟩
  exact ⟨run_Less a b hl hl', fun _ => .lit _⟩
theorem short_gt {l : List (List Int)} (h : ∀ f ∈ l, f.length < 2 ^ 46) (i : Int) : (gt l i).length < 2 ^ 61 := by
  unfold gt
  by_cases hi : i.toNat < l.length
  · rw [List.getD_eq_getElem?_getD, List.getElem?_eq_getElem hi]; exact Nat.lt_trans (h _ (List.getElem_mem _)) (by decide)
  · rw [List.getD_eq_getElem?_getD, List.getElem?_eq_none (by omega)]; show 0 < 2 ^ 61; decide
/-- The closure of Generate: the elements at two places. -/
def R_lessAt (args : List AV) (r : AV) : Prop := ∃ (l : List (List Int)) (i j : Nat), (∀ f ∈ l, f.length < 2 ^ 46) ∧ i < l.length ∧ j < l.length ∧ args = [eN .i64 i, eN .i64 j, .fptr [LLI false false l]] ∧ r = eB (lexL (gt l i) (gt l j))
theorem fq_lessAt : Fq prog ⟨93, false, R_lessAt⟩ := C.group.Generate_1.fq (es := [⟨F_group_lessList, false, R_Less⟩]) ⟨fq_lessList, trivial⟩ (by kernel_rfl) <| by
  rintro _ _ ⟨l, i, j, hl, hi, hj, rfl, rfl⟩
  refine ⟨Run.of C.group.Generate_1.top.eq_1 (by simp) ?_, fun _ => .lit _⟩
  simp only [↓cnd_t, ↓cnd_f, ↓cnf_t, ↓cnf_f, VS, astep, Nat.reduceEqDiff, Nat.reduceAdd, Nat.reduceMul, Nat.reduceLT, Nat.reduceLeDiff, Nat.reduceBEq, Int.reduceLT, reduceCtorEq, enum, C.group.Generate_1.rs]
  refine ⟨by omega, by omega, ?_⟩
  refine YCD.of (R := R_Less) rfl [LI false (gt l i), LI false (gt l j)] _ ⟨_, _, short_gt hl _, short_gt hl _, rfl, rfl⟩ (.cons (cv_LI ff) (.cons (cv_LI ff) .nil)) ?_
  simp only [↓cnd_t, ↓cnd_f, ↓cnf_t, ↓cnf_f, VS, astep, Nat.reduceEqDiff, Nat.reduceAdd, Nat.reduceMul, Nat.reduceLT, Nat.reduceLeDiff, Nat.reduceBEq, Int.reduceLT, reduceCtorEq]
  exact ends_b (by decide) rfl rfl
end Go.Proofs.YtbpajecjaoefaaaGreat.V

/- The library's sort of a slice by a closure, as a call that writes a row of the call's own. -/





namespace Go.Proofs.YtbpajecjaoefaaaGreat.V

open Go Go.RowKit Go.Sort Go.Proofs.Tryz

/-- What the sort does, of elements of one cell. -/
def SortsBy (P : Program) (F t fn : Nat) : Prop := ∀ {α : Type} [Inhabited α] (enc : α → Value) (h1 : ∀ x, (enc x).oneCell' = true) (lt : α → α → Bool) (hO : SWO lt) (lb : Array Value) (blk c : Nat) (d : Array α) (h2 : 2 ≤ d.size) (hsz : d.size < 4611686018427387904) (w : World)
  (hless : LessReads P fn lb enc lt blk 0 d.size w) (hH : Holds enc w blk 0 d) (hblk : blk < w.heap.size),
  Calls P F #[.iface t (.slice (some ⟨blk, 0, none⟩) d.size c), .func (.func fn) #[] lb] w fun e w' => e = .returned (.tuple #[]) ∧ ∃ d' n os, PermIn 0 d.size d d' ∧ SortedIn lt 0 d.size d' ∧ w' = grow (putRow enc (Sort.ahead w n) blk 0 d') os
def SortsTiny (P : Program) (F t fn : Nat) : Prop := ∀ (p : Option Addr) (n c : Nat) (h1 : n ≤ 1) (lb : Array Value) (w : World), Calls P F #[.iface t (.slice p n c), .func (.func fn) #[] lb] w fun e w' => e = .returned (.tuple #[]) ∧ ∃ os, w' = grow w os

def srtBy {β : Type} (lt : β → β → Bool) (l : List β) : List β := l.mergeSort fun x y => !lt y x
theorem srtBy_len {β : Type} (lt : β → β → Bool) (l : List β) : (srtBy lt l).length = l.length := by simp [srtBy]
/-- What the call does to a state. -/
def S_sortBy {β : Type} (t fn : Nat) (f1 : β → AV) (ok : β → Prop) (lt : β → β → Bool) (_ : Nat) (st : St) (xs : List AV) (r : AV) (M' : List (Option Blk)) : Prop :=
  ∃ (id idb : Nat) (g gb : Gen) (e tb : TypeId) (l : List β), l.length < 2 ^ 61 ∧ (∀ x ∈ l, ok x) ∧ xs = [.ifc t (.own id g), .clo fn [.ptr idb gb 0]] ∧ st.M[id]? = some (some (eR g e 1 (c1 f1) l)) ∧ st.M[idb]? = some (some (.box gb tb [.own id g])) ∧
    r = .tup [] ∧ M' = st.M.set id (some (eR g e 1 (c1 f1) (srtBy lt l)))
theorem flat_c1 {β : Type} {f1 : β → AV} : ∀ l : List β, l.flatMap (c1 f1) = l.map f1
  | [] => rfl
  | x :: l => by simp only [List.flatMap_cons, List.map_cons, flat_c1 l]; rfl
theorem Cs_c1 {β : Type} {f1 : β → AV} {X : Claims} {s0 : Nat} {H : Heads} {l : List β} {xs : List Value} (h : Cs X s0 H (l.flatMap (c1 f1)) xs) : xs.length = l.length ∧ ∀ (j : Nat) (x : β) (v : Value), l[j]? = some x → xs[j]? = some v → C X s0 H (f1 x) v := by
  have e : l.flatMap (c1 f1) = l.map f1 := by
    exact flat_c1 l
  rw [e] at h
  refine ⟨by rw [h.len]; simp, fun j x v hx hv => h.at_ j _ v (by rw [List.getElem?_map, hx]; rfl) hv⟩
theorem Cs_of_c1 {β : Type} {f1 : β → AV} {X : Claims} {s0 : Nat} {H : Heads} {l : List β} {xs : List Value} (hl : xs.length = l.length) (h : ∀ (j : Nat) (x : β) (v : Value), l[j]? = some x → xs[j]? = some v → C X s0 H (f1 x) v) : Cs X s0 H (l.flatMap (c1 f1)) xs := by
  have e : l.flatMap (c1 f1) = l.map f1 := by
    exact flat_c1 l
  rw [e]
  refine ⟨by rw [hl]; simp, fun j y v hy hv => ?_⟩
  rw [List.getElem?_map] at hy
  cases e2 : l[j]? with
  | none => rw [e2] at hy; cases hy
  | some x => rw [e2] at hy; injection hy with hy; subst hy; exact h j x v e2 hv
theorem sortBy_con {P : Program} {F t fn : Nat} (hSort : SortsBy P F t fn) (hTiny : SortsTiny P F t fn) {β : Type} [Inhabited β] {f1 f1' : β → AV} (hw : ∀ x, Cw (f1 x) (f1' x)) (h1 : ∀ {X : Claims} {s0 : Nat} {H : Heads} {x : β} {v : Value}, C X s0 H (f1 x) v → v.oneCell' = true)
    (hfree : ∀ {X : Claims} {s0 s1 : Nat} {H : Heads} {x : β} {v : Value}, C X s0 H (f1' x) v → C X s1 H0 (f1' x) v)
    {ok : β → Prop} {lt : β → β → Bool} (hO : SWO lt) (hanti : ∀ x y, lt x y = false → lt y x = false → x = y) {R : List AV → AV → Prop} (hq : Con P false fn R true)
    (hR : ∀ (l : List β) (i j : Nat), (∀ x ∈ l, ok x) → i < l.length → j < l.length → R [eN .i64 i, eN .i64 j, .fptr [eL false 1 (c1 f1') l]] (eB (lt (gt l i) (gt l j)))) :
    ConX P F (S_sortBy t fn f1 ok lt) := by
  rintro i st _ _ _ ⟨id, idb, g, gb, e, tb, l, hl, hok, rfl, hM, hMb, rfl, rfl⟩ s0 S w0 D X H a w vals hwq hS _ hC
  obtain ⟨v, xs, g1, g2, g3, g4, g5⟩ := hS.blks id _ hM
  obtain ⟨bb, bv, k1, k2, k3, k4, k5⟩ := hS.blks idb _ hMb
  obtain ⟨hxl, hxs⟩ := Cs_c1 g3
  -- the arguments
  have hlen : vals.size = 2 := by have := hC.len; simpa using this
  have e0 : vals.toList[0]? = some vals[0] := by rw [Array.getElem?_toList]; exact Array.getElem?_eq_getElem (by omega)
  have e1 : vals.toList[1]? = some vals[1] := by rw [Array.getElem?_toList]; exact Array.getElem?_eq_getElem (by omega)
  have c0 := hC.at_ 0 _ _ rfl e0
  have c1' := hC.at_ 1 _ _ rfl e1
  have hv : vals = #[.iface t v, .func (.func fn) #[] #[.pointer (some ⟨bb, 0, none⟩)]] := by
    have a0 : vals[0] = .iface t v := by
      revert c0; generalize vals[0] = u; intro c0
      cases c0 with
      | ifc h => cases h with
        | own b1 _ => rw [g1] at b1; injection b1 with b1; subst b1; rfl
    have a1 : vals[1] = .func (.func fn) #[] #[.pointer (some ⟨bb, 0, none⟩)] := by
      revert c1'; generalize vals[1] = u; intro c1'
      cases c1' with
      | clo hv hC =>
        rename_i us
        have hu : us.size = 1 := by simpa using hv
        have h0 := hC 0 _ us[0] rfl (Array.getElem?_eq_getElem (by omega))
        have : us[0] = .pointer (some ⟨bb, 0, none⟩) := by
          revert h0; generalize us[0] = z; intro h0
          cases h0 with
          | ptr b1 b2 => rw [k1] at b1; injection b1 with b1; subst b1; simp only [hblk] at b2; injection b2 with b2; subst b2; rfl
        congr 1
        apply Array.ext
        · simp [hu]
        · intro i hi hi'
          have : i = 0 := by omega
          subst this; simpa using ‹us[0] = _›
    apply Array.ext
    · simp [hlen]
    · intro i hi hi'
      match i with
      | 0 => simpa using a0
      | 1 => simpa using a1
      | i + 2 => simp at hi'; omega
  subst hv
  -- few elements: nothing turns
  have tiny : ∀ (p : Option Addr) (c : Nat), v = .slice p l.length c → l.length ≤ 1 → Calls P F #[.iface t v, .func (.func fn) #[] #[.pointer (some ⟨bb, 0, none⟩)]] w fun e_1 w' => ∃ v X' H', e_1 = .returned v ∧ Sim s0 S w0 (fun j => D j ∨ j = i) X' H' { st with M := st.M.set id (some (eR g e 1 (c1 f1) (srtBy lt l))) } a w' ∧ C X' s0 H' (.tup []) v := by
    intro p c hv hl1
    have hsame : srtBy lt l = l := by
      match l, hl1 with
      | [], _ => simp [srtBy]
      | [x], _ => simp [srtBy]
    rw [hv]
    refine (hTiny p l.length c hl1 _ w).mono ?_
    rintro e' w' ⟨rfl, os, rfl⟩
    have hself : st.M.set id (some (eR g e 1 (c1 f1) (srtBy lt l))) = st.M := by
      obtain ⟨hlt, hgt⟩ := List.getElem?_eq_some_iff.1 hM
      rw [hsame, ← hgt]; exact List.set_getElem_self hlt
    rw [hself]
    have hS2 : Sim s0 S w0 D (orX X fun _ _ => none) H st a (grow w os) := hS.called (Y := fun _ _ => none) (q_false hwq) ⟨rfl, rfl, rfl, by simp [grow], fun k hk => by
      simp only [grow]
      rw [Array.getElem?_append_left hk]⟩ (fun b o u hu => by cases hu)
    exact ⟨_, _, H, rfl, Sim.done (D' := fun j => D j ∨ j = i) hS2 fun _ => Or.inl, .tup rfl fun j x v hx => by simp at hx⟩
  rcases g2.2 with ⟨hv, hn⟩ | ⟨b, cap, cur, rfl, hbase, hb, a1, a2, a3, a4⟩
  · exact tiny none 0 (by rw [hv, hn]) (by omega)
  · by_cases h2 : 2 ≤ l.length
    · let Pp : Value × β → Prop := fun p => p.1.oneCell' = true ∧ C X s0 H (f1 p.2) p.1 ∧ ok p.2
      have hzip : ∀ p ∈ xs.zip l, Pp p := by
        intro p hp
        obtain ⟨j, hj⟩ := List.mem_iff_getElem?.1 hp
        rw [List.getElem?_zip_eq_some] at hj
        have := hxs j p.2 p.1 hj.2 hj.1
        exact ⟨h1 this, this, hok _ (List.mem_of_getElem? hj.2)⟩
      let ds : List { p // Pp p } := (xs.zip l).pmap (fun p h => ⟨p, h⟩) hzip
      have hval : ds.map Subtype.val = xs.zip l := by simp only [ds, List.map_pmap, List.pmap_eq_map, List.map_id']
      have hdl : ds.length = l.length := by simp [ds, hxl]
      let enc : { p // Pp p } → Value := fun p => p.1.1
      let snd : { p // Pp p } → β := fun p => p.1.2
      have henc : ds.map enc = xs := by
        have : ds.map enc = (ds.map Subtype.val).map Prod.fst := by rw [List.map_map]; rfl
        rw [this, hval, List.map_fst_zip]; omega
      have hsnd : ds.map snd = l := by
        have : ds.map snd = (ds.map Subtype.val).map Prod.snd := by rw [List.map_map]; rfl
        rw [this, hval, List.map_snd_zip]; omega
      letI : Inhabited { p // Pp p } := ⟨ds[0]'(by omega)⟩
      have ht : cur.toList.take ds.length = ds.map enc := by rw [henc, hdl]; simpa using a4
      have hH := XS.holds_of (enc := enc) ds hb ht
      have hbl := (Array.getElem?_eq_some_iff.1 hb).1
      -- the box
      have hbox : ∃ z, bv.toList = [z] ∧ z = .slice (some ⟨b, 0, none⟩) l.length cap := by
        have hl1 := k3.len
        match hz : bv.toList, hl1 with
        | [z], _ =>
          refine ⟨z, rfl, ?_⟩
          have h0 := k3.at_ 0 _ z rfl (by rw [hz]; rfl)
          cases h0 with
          | own b1 _ => rw [g1] at b1; injection b1 with b1; exact b1.symm
      obtain ⟨z, hz, rfl⟩ := hbox
      have hne : bb ≠ b := by
        intro e1
        have := hS.inj id idb _ _ _ _ b hM hMb g1 k1 rfl (by simp [hblk, e1])
        subst this
        rw [hM] at hMb; cases hMb
      have hbb := (Array.getElem?_eq_some_iff.1 k2).1
      have hcellb : w.cell? ⟨bb, 0, none⟩ = some (.slice (some ⟨b, 0, none⟩) l.length cap) := by
        have : bv[0]? = some (.slice (some ⟨b, 0, none⟩) l.length cap) := by rw [← Array.getElem?_toList, hz]; rfl
        simp [World.cell?, k2, this]
      have hless : LessReads P fn #[.pointer (some ⟨bb, 0, none⟩)] enc (fun x y => lt (snd x) (snd y)) b 0 ds.toArray.size w := by
        intro m os dk hs i j hi hj
        have hs' : dk.size = l.length := by simpa [hdl] using hs
        have eW : sortWorld enc w b 0 m dk os = putRow enc (grow (Sort.ahead w m) os) b 0 dk := by unfold sortWorld; rw [putRow_grow enc (Sort.ahead w m) _ b 0 _ hbl]
        have hHg : Holds enc (grow (Sort.ahead w m) os) b 0 ds.toArray := holds_grow _ _ _ b 0 _ hbl (holds_ahead _ _ _ _ _ _ hH)
        have other : ∀ p : Addr, p.block ≠ b → p.block < w.heap.size → (sortWorld enc w b 0 m dk os).cell? p = w.cell? p := by
          intro p hp hlt
          rw [eW, cell?_putRow_other _ _ b 0 dk _ (Or.inl hp), cell?_grow _ _ _ (by simpa [Sort.ahead] using hlt)]
          rfl
        have here : ∀ k, k < l.length → (sortWorld enc w b 0 m dk os).cell? ⟨b, 0 + k, none⟩ = some (enc dk[k]!) := by
          intro k hk
          rw [eW]; exact cell?_putRow _ _ b 0 ds.toArray dk hHg (by simpa using hs) k (by omega)
        generalize hW : sortWorld enc w b 0 m dk os = W at other here ⊢
        have hXW : X.le (allX W) := by
          intro b' o u hu
          have hc := hS.claims b' o u hu
          have hlt := World.block_lt_of_cell? w _ hc
          have hnb : b' ≠ b := by rintro rfl; rw [(g5 _ rfl).2 o] at hu; cases hu
          show W.cell? ⟨b', o, none⟩ = some u
          rw [other _ hnb hlt]; exact hc
        let lk : List β := dk.toList.map snd
        have hlk : lk.length = l.length := by simp [lk, hs']
        have hlkg : ∀ k : Nat, k < l.length → gt lk k = snd dk[k]! := by
          intro k hk
          rw [gt_nat (by omega)]
          simp [lk, getElem!_pos dk k (by omega)]
        have hargs : Cs (allX W) W.heap.size H0 [eN .i64 i, eN .i64 j, .fptr [eL false 1 (c1 f1') lk]] (#[Value.int .i64 i, Value.int .i64 j] ++ #[Value.pointer (some ⟨bb, 0, none⟩)]).toList := by
          refine ⟨by simp, fun k x u hx hu => ?_⟩
          match k with
          | 0 => simp at hx hu; subst hx; subst hu; exact .lit _
          | 1 => simp at hx hu; subst hx; subst hu; exact .lit _
          | 2 =>
            simp at hx hu; subst hx; subst hu
            refine C.fptr (cs := [eL false 1 (c1 f1') lk]) (vs := [.slice (some ⟨b, 0, none⟩) l.length cap]) rfl (fun q u hu => ?_) fun q x u hx hu => ?_
            · match q with
              | 0 => simp at hu; subst hu; show W.cell? ⟨bb, 0 + 0, none⟩ = _; rw [other _ hne hbb]; exact hcellb
              | q + 1 => simp at hu
            · match q with
              | 0 =>
                simp at hx hu; subst hx; subst hu
                rw [show l.length = lk.length by omega]
                refine .frz (vs := dk.toList.map enc) ff (by omega) (by rw [flat_c1]; simp) (by omega) (by rw [flat_c1]; simp [lk]) (fun q u hq => ?_) fun q x u hx hu => ?_
                · rw [List.getElem?_map] at hq
                  cases e1 : dk.toList[q]? with
                  | none => rw [e1] at hq; cases hq
                  | some y =>
                    rw [e1] at hq; injection hq with hq; subst hq
                    have hlt : q < dk.size := by simpa using (List.getElem?_eq_some_iff.1 e1).1
                    show W.cell? ⟨b, 0 + q, none⟩ = _
                    rw [here q (by omega), getElem!_pos dk q hlt]
                    rw [Array.getElem?_toList, Array.getElem?_eq_getElem hlt] at e1
                    injection e1 with e1; rw [e1]
                · rw [flat_c1, List.getElem?_map] at hx
                  simp only [lk] at hx
                  rw [List.getElem?_map] at hx hu
                  cases e1 : dk.toList[q]? with
                  | none => rw [e1] at hu; cases hu
                  | some y =>
                    rw [e1] at hx hu
                    injection hu with hu; subst hu
                    simp only [Option.map_some, Option.some.injEq] at hx; subst hx
                    exact hfree ((hw _ y.2.2.1).mono hXW (Nat.le_refl _) (Heads.le.refl H))
              | q + 1 => simp at hx
          | k + 3 => simp at hx
        have hi' : i < l.length := by simpa [hdl] using hi
        have hj' : j < l.length := by simpa [hdl] using hj
        refine (hq _ _ (hR lk i j (fun x hx => ?_) (by omega) (by omega)) (allX W) W _ (fun b o v h => h) hargs).mono ?_
        · simp only [lk, List.mem_map] at hx
          obtain ⟨y, _, rfl⟩ := hx
          exact y.2.2.2
        · rintro e' w' ⟨u, Y, rfl, _, hCu, _, hD⟩
          rw [hlkg i hi', hlkg j hj'] at hCu
          cases hCu
          exact ⟨rfl, hD rfl⟩
      have hO' : SWO fun x y : { p // Pp p } => lt (snd x) (snd y) := ⟨fun x => hO.irrefl _, fun x y z => hO.trans _ _ _, fun x y z => hO.ntrans _ _ _⟩
      have hsz : ds.toArray.size = l.length := by simp [hdl]
      have hcall := hSort enc (fun x => x.2.1) _ hO' #[.pointer (some ⟨bb, 0, none⟩)] b cap ds.toArray (by omega) (by omega) w hless hH hbl
      rw [hsz] at hcall
      refine hcall.mono ?_
      rintro e' w' ⟨rfl, d', n', os, hp, hso, rfl⟩
      have hd0 : d'.size = l.length := by have := hp.1; simpa [hdl] using this
      have hperm : d'.toList.Perm ds := by
        have := hp.2.2
        rw [show d'.extract 0 l.length = d' by rw [← hd0]; exact Array.extract_size, show ds.toArray.extract 0 l.length = ds.toArray by rw [← hsz]; exact Array.extract_size] at this
        simpa using this
      have hsrt : d'.toList.map snd = srtBy lt l := by
        have hperm2 : (d'.toList.map snd).Perm l := by have := hperm.map snd; rwa [hsnd] at this
        refine List.Perm.eq_of_pairwise (le := fun x y => (!lt y x) = true) ?_ ?_ ?_ (hperm2.trans (List.mergeSort_perm _ _).symm)
        · intro a b _ _ h1 h2
          simp only [Bool.not_eq_true'] at h1 h2
          exact hanti a b h2 h1
        · rw [List.pairwise_iff_getElem]
          intro i j hi hj hij
          have hi' : i < d'.size := by simpa using hi
          have hj' : j < d'.size := by simpa using hj
          have := hso i j (Nat.zero_le _) hij (by omega)
          rw [getElem!_pos d' j hj', getElem!_pos d' i hi'] at this
          simpa using this
        · refine List.pairwise_mergeSort ?_ ?_ _
          · intro a b c h1 h2
            simp only [Bool.not_eq_true'] at h1 h2 ⊢
            exact hO.ntrans c b a h2 h1
          · intro a b
            cases h : lt b a with
            | false => simp
            | true =>
              have : lt a b = false := by
                cases h3 : lt a b with
                | false => rfl
                | true => have := hO.trans _ _ _ h h3; rw [hO.irrefl] at this; cases this
              simp [this]
      have hts : d' = d'.toList.toArray := by simp
      have hg := XS.others_after (enc := enc) (w := w) (g := b) (n := n') (os := os) d'
      have hr := XS.row_of (enc := enc) (n := n') (os := os) (ss := ds) (ts := d'.toList) (by rw [hdl]; simpa using hd0) hbase hb (by rw [hdl]; exact a1) a2 a3
      rw [← hts, hdl] at hr
      refine ⟨_, X, H, rfl, Sim.done (D' := fun j => D j ∨ j = i) (hS.same (B' := eR g e 1 (c1 f1) (srtBy lt l)) hM g1 (q_false hwq) hg rfl ?_) fun _ => Or.inl, .tup rfl fun j x v hx => by simp at hx⟩
      refine ⟨_, _, g1, by rw [srtBy_len]; exact hr, Cs_of_c1 (by rw [List.length_map, srtBy_len]; simpa using hd0) ?_, by omega, fun b' hb' => g5 b' hb'⟩
      intro j x u hx hu
      rw [← hsrt, List.getElem?_map] at hx
      rw [List.getElem?_map] at hu
      cases e1 : d'.toList[j]? with
      | none => rw [e1] at hu; cases hu
      | some y =>
        rw [e1] at hx hu
        injection hx with hx; injection hu with hu; subst hx; subst hu
        exact y.2.2.1
    · exact tiny _ _ rfl (by omega)
end Go.Proofs.YtbpajecjaoefaaaGreat.V

/- The sort of Generate: lists of numbers by the lexicographic order. -/




namespace Go.Proofs.YtbpajecjaoefaaaGreat.V

open Go Go.RowKit Go.Sort Go.Proofs.Tryz

noncomputable def siT : TypeInfo := (prog.info? TSSint).get (by kernel_rfl)
noncomputable def siE : TypeInfo := (prog.info? TSint).get (by kernel_rfl)
theorem siK (n : Nat) (h2 : 2 ≤ n) : Lib.swapperK n siE 23 = 9 := by
  have a : siE.hasPointers = true := by kernel_rfl
  have b : siE.bytes = 24 := by kernel_rfl
  have c : (n == 0) = false := by simp; omega
  have d : (n == 1) = false := by simp; omega
  simp [Lib.swapperK, a, b, c, d]
theorem sorts_LLI : SortsBy prog F_sort_Slice TSSint 93 := by
  intro α _ enc h1 lt hO lb blk c d h2 hsz w hless hH hblk
  exact Any.sort_Slice_sorted Tryz.laysGg6 TSSint TSint siT siE (by kernel_rfl) (by kernel_rfl) (by kernel_rfl) (by kernel_rfl) 23 (fun _ => by kernel_rfl) (by kernel_rfl) (fun _ => by kernel_rfl) enc h1 lt hO 93 lb fq_lessAt.ent blk 0 c d h2 hsz 103 (by rw [siK _ h2]; kernel_rfl) false
    (fun args W => run_callFunc_extern (by kernel_rfl : prog.funcs[103]? = some f103) (by kernel_rfl) (by kernel_rfl) (by kernel_rfl) (e := Extern.ReflectliteSwapper.swap false) (by kernel_rfl) args W) w hless hH hblk
theorem tiny_LLI : SortsTiny prog F_sort_Slice TSSint 93 := by
  intro p n c h1 lb w
  have hK : Lib.swapperK n siE 23 = n + 1 := by
    rcases Nat.eq_zero_or_pos n with h | h
    · subst h; simp [Lib.swapperK]
    · obtain rfl : n = 1 := by omega
      simp [Lib.swapperK]
  exact Any.sort_Slice_tiny Tryz.laysGg6 TSSint TSint siT siE (by kernel_rfl) (by kernel_rfl) (by kernel_rfl) (by kernel_rfl) 23 (fun _ => by kernel_rfl) p n c h1 (95 + n) (by
    rw [hK]
    rcases Nat.eq_zero_or_pos n with h | h
    · subst h; kernel_rfl
    · obtain rfl : n = 1 := by omega
      kernel_rfl) (.func 93) #[] lb w
theorem lexL_irrefl : ∀ a, lexL a a = false
  | [] => rfl
  | x :: a => by rw [lexL, if_pos rfl, lexL_irrefl a]
theorem lexL_trans : ∀ {a b c : List Int}, lexL a b = true → lexL b c = true → lexL a c = true
  | [], [], c, h, _ => by simp [lexL] at h
  | [], _ :: _, [], _, h => by simp [lexL] at h
  | [], _ :: _, _ :: _, _, _ => rfl
  | _ :: _, [], _, h, _ => by simp [lexL] at h
  | x :: a, y :: b, [], _, h => by simp [lexL] at h
  | x :: a, y :: b, z :: c, h1, h2 => by
    rw [lexL] at h1 h2 ⊢
    by_cases e : x = y
    · subst e
      rw [if_pos rfl] at h1
      by_cases e2 : x = z
      · subst e2; rw [if_pos rfl] at h2 ⊢; exact lexL_trans h1 h2
      · rw [if_neg e2] at h2 ⊢; exact h2
    · rw [if_neg e] at h1
      by_cases e2 : y = z
      · subst e2; rw [if_neg e]; exact h1
      · rw [if_neg e2] at h2
        simp only [decide_eq_true_eq] at h1 h2
        rw [if_neg (by omega)]; simp only [decide_eq_true_eq]; omega
theorem lexL_conn : ∀ {a b : List Int}, lexL a b = false → lexL b a = false → a = b
  | [], [], _, _ => rfl
  | [], _ :: _, h, _ => by simp [lexL] at h
  | _ :: _, [], _, h => by simp [lexL] at h
  | x :: a, y :: b, h1, h2 => by
    rw [lexL] at h1 h2
    by_cases e : x = y
    · subst e
      rw [if_pos rfl] at h1 h2
      rw [lexL_conn h1 h2]
    · rw [if_neg e] at h1; rw [if_neg (fun h => e h.symm)] at h2
      simp only [decide_eq_false_iff_not] at h1 h2
      omega
theorem swo_lexL : SWO lexL where
  irrefl := lexL_irrefl
  trans x y z := lexL_trans
  ntrans x y z h1 h2 := by
    cases h3 : lexL x z with
    | false => rfl
    | true =>
      cases h4 : lexL y x with
      | true => have := lexL_trans h4 h3; rw [h2] at this; cases this
      | false => have := lexL_conn h1 h4; subst this; rw [h2] at h3; cases h3
theorem LI_free {X : Claims} {s0 s1 : Nat} {H : Heads} {x : List Int} {v : Value} (h : C X s0 H (LI false x) v) : C X s1 H0 (LI false x) v := by
  have key : ∀ y, C X s0 H y v → y = LI false x → C X s1 H0 (LI false x) v := by
    intro y h
    cases h with
    | frz0 =>
      intro hy
      injection hy with a b c d
      have : x = [] := List.eq_nil_of_length_eq_zero c.symm
      subst this; exact .frz0
    | frz hl h0 hn hc hv hx hC =>
      rename_i lab k n b o c cs vs
      intro hy
      injection hy with a1 a2 a3 a4
      subst a1; subst a2; subst a3; subst a4
      refine .frz ff h0 hn hc hv hx fun j y u hy hu => ?_
      have := hC j y u hy hu
      rw [flat_c1, List.getElem?_map] at hy
      cases e1 : x[j]? with
      | none => rw [e1] at hy; cases hy
      | some z => rw [e1] at hy; injection hy with hy; subst hy; cases this; exact .lit _
    | _ => intro hy; cases hy
  exact key _ h rfl
theorem frz_one {X : Claims} {s0 : Nat} {H : Heads} {lab : Bool} {k n : Nat} {cs : List AV} {v : Value} (h : C X s0 H (.frz lab k n cs) v) : v.oneCell' = true := by
  cases h <;> rfl
def S_sortLLI : Nat → St → List AV → AV → List (Option Blk) → Prop := S_sortBy TSSint 93 (LI true) (fun x : List Int => x.length < 2 ^ 46) lexL
theorem fsp_sortLLI : Fsp prog ⟨F_sort_Slice, S_sortLLI⟩ := by
  refine ⟨?_, enters_some (by kernel_rfl : prog.funcs[F_sort_Slice]? = some f56) (by kernel_rfl) (by kernel_rfl)⟩
  refine sortBy_con sorts_LLI tiny_LLI (f1' := LI false) (fun x => Cw.L ff fun y _ => Cws.refl _) ?_ LI_free swo_lexL (fun x y => lexL_conn) fq_lessAt.con ?_
  · intro X s0 H x v h
    exact frz_one h
  · intro l i j hok hi hj
    exact ⟨l, i, j, hok, hi, hj, rfl, rfl⟩
end Go.Proofs.YtbpajecjaoefaaaGreat.V

/- The text by which sets are looked up. -/




namespace Go.Proofs.YtbpajecjaoefaaaGreat.V

open Go Go.RowKit Go.Proofs.Tryz

def key2 (x : Int) : List Int := [IntKind.u8.wrap x, IntKind.u8.wrap (x.fdiv 256)]
def keyL (l : List Int) : List Int := l.flatMap key2
theorem keyL_len (l : List Int) : (keyL l).length = 2 * l.length := by
  induction l with
  | nil => rfl
  | cons x l ih => simp only [keyL, List.flatMap_cons, List.length_append] at ih ⊢; rw [ih]; simp [key2]; omega
theorem u8s_all (l : List Int) : u8s (l.flatMap (c1 (eN .u8))) = some l := by
  induction l with
  | nil => rfl
  | cons x l ih =>
    have e : (x :: l).flatMap (c1 (eN .u8)) = eN .u8 x :: l.flatMap (c1 (eN .u8)) := rfl
    rw [e]; simp only [u8s, ih]; rfl
theorem key_l0 {Γ : Ctx} (l : List Int) (hl : l.length < 2 ^ 46) {Q : Exit → St → Prop} (hy : ∀ g gg, Q (.exit 0) (mk 27 [(3, .own 0 gg)] [some (eM gg Tuint8 1 (2 * l.length) (c1 (eN .u8)) (keyL l)), none] g)) :
    ∀ (m i g : Nat) (gg : Gen), i + m = l.length → W Γ C.group.key.L0 (mk 27 [(3, .own 0 gg), (10, LI false l), (11, eN .i64 l.length), (12, eN .i64 i)] [some (eM gg Tuint8 1 (2 * i) (c1 (eN .u8)) (keyL (l.take i))), none] g) Q := by
  intro m
  induction m with
  | zero =>
    intro i g gg hi
    obtain rfl : i = l.length := by omega
    refine W.go C.group.key.l0.eq_1 ?_
    simp only [↓cnd_t, ↓cnd_f, ↓cnf_t, ↓cnf_f, VS, astep, Nat.reduceEqDiff, Nat.reduceAdd, Nat.reduceMul, Nat.reduceLT, Nat.reduceLeDiff, Nat.reduceBEq, Int.reduceLT, reduceCtorEq]
    refine ⟨fun h => by omega, fun _ => ?_⟩
    rw [List.take_length]
    exact hy _ _
  | succ m ih =>
    intro i g gg hi
    refine W.go C.group.key.l0.eq_1 ?_
    simp only [↓cnd_t, ↓cnd_f, ↓cnf_t, ↓cnf_f, VS, astep, Nat.reduceEqDiff, Nat.reduceAdd, Nat.reduceMul, Nat.reduceLT, Nat.reduceLeDiff, Nat.reduceBEq, Int.reduceLT, reduceCtorEq]
    have hg : gt l i = l[i] := gt_nat (by omega)
    have hw : IntKind.i64.wrap (↑i + 1) = ((i + 1 : Nat) : Int) := by rw [wr_in (by omega) (by omega)]; simp
    simp only [hg, hw]
    refine ⟨fun _ => ⟨by omega, by omega, ?_⟩, fun h => by omega⟩
    have := ih (i + 1) (g + 1 + 1 + 1 + 1) (g + 1 + 1, 7) (by omega)
    rw [List.take_add_one, List.getElem?_eq_getElem (by omega)] at this
    have e : keyL (l.take i ++ (some l[i]).toList) = keyL (l.take i) ++ key2 l[i] := by simp only [keyL, Option.toList_some, List.flatMap_append, List.flatMap_cons, List.flatMap_nil, List.append_nil]
    rw [e] at this
    exact this
def R_key (args : List AV) (r : AV) : Prop := ∃ l : List Int, l.length < 2 ^ 46 ∧ args = [LI false l] ∧ r = eS (pushAll (keyL l))
theorem fk_key : Fk prog ⟨F_group_key, false, R_key⟩ := C.group.key.fk (es := []) trivial <| by
  rintro _ _ ⟨l, hl, rfl, rfl⟩
  refine ⟨Run.of C.group.key.top.eq_1 (by simp) ?_, fun _ => .lit _⟩
  simp only [↓cnd_t, ↓cnd_f, ↓cnf_t, ↓cnf_f, VS, astep, Nat.reduceEqDiff, Nat.reduceAdd, Nat.reduceMul, Nat.reduceLT, Nat.reduceLeDiff, Nat.reduceBEq, Int.reduceLT, reduceCtorEq, enum, C.group.key.rs]
  rw [wr_in (by omega) (by omega)]
  refine ⟨by omega, ?_⟩
  refine key_l0 l hl ?_ l.length 0 _ _ (by omega)
  intro g gg
  simp only [↓cnd_t, ↓cnd_f, ↓cnf_t, ↓cnf_f, VS, astep, Nat.reduceEqDiff, Nat.reduceAdd, Nat.reduceMul, Nat.reduceLT, Nat.reduceLeDiff, Nat.reduceBEq, Int.reduceLT, reduceCtorEq, u8s_all]
  exact ends_1 (by decide) (.lit _)
end Go.Proofs.YtbpajecjaoefaaaGreat.V

/- The group that permutations generate (the program's). -/




namespace Go.Proofs.YtbpajecjaoefaaaGreat.V

open Go Go.RowKit Go.Proofs.Tryz

theorem ba_eq (a b : ByteArray) : (a == b) = true ↔ a = b := by
  obtain ⟨x⟩ := a
  obtain ⟨y⟩ := b
  constructor
  · intro h
    have : (x == y) = true := h
    rw [beq_iff_eq] at this
    rw [this]
  · intro h
    injection h with h
    show (x == y) = true
    rw [beq_iff_eq]; exact h
theorem ba_ne {a b : ByteArray} (h : ¬ a = b) : (a == b) = false := by
  cases e : (a == b) with
  | false => rfl
  | true => exact absurd ((ba_eq a b).1 e) h
/-- A set of lists, as a map from their texts to true. -/
def keys (l : List (List Int)) : List (Value × AV) := l.map fun p => (.string (pushAll (keyL p)), eB true)
/-- Lists that their texts tell apart. -/
def tells (p : List Int) : Prop := ∀ x ∈ p, 0 ≤ x ∧ x < 65536
theorem pushAll_data (l : List Int) : ∀ s : ByteArray, (l.foldl (fun r n => r.push (UInt8.ofNat n.toNat)) s).data.toList = s.data.toList ++ l.map fun n => UInt8.ofNat n.toNat := by
  induction l with
  | nil => intro s; simp
  | cons x l ih => intro s; rw [List.foldl_cons, ih]; simp [ByteArray.push]
theorem key_inj : ∀ {a b : List Int}, tells a → tells b → (keyL a).map (fun n => UInt8.ofNat n.toNat) = (keyL b).map (fun n => UInt8.ofNat n.toNat) → a = b
  | [], [], _, _, _ => rfl
  | [], y :: b, _, _, h => by simp [keyL, key2] at h
  | x :: a, [], _, _, h => by simp [keyL, key2] at h
  | x :: a, y :: b, ha, hb, h => by
    have h1 := ha x (List.mem_cons_self ..)
    have h2 := hb y (List.mem_cons_self ..)
    simp only [keyL, List.flatMap_cons, key2, List.map_append, List.map_cons, List.map_nil, List.cons_append, List.nil_append, List.cons.injEq] at h
    obtain ⟨e1, e2, e3⟩ := h
    have e4 := key_inj (fun z hz => ha z (List.mem_cons_of_mem _ hz)) (fun z hz => hb z (List.mem_cons_of_mem _ hz)) e3
    have low : ∀ z : Int, (UInt8.ofNat (IntKind.u8.wrap z).toNat).toNat = (IntKind.u8.wrap z).toNat := by
      intro z
      rw [IntKind.wrap_u8]
      simp only [UInt8.toNat_ofNat']
      omega
    have f1 := congrArg UInt8.toNat e1
    have f2 := congrArg UInt8.toNat e2
    rw [low, low, IntKind.wrap_u8, IntKind.wrap_u8] at f1 f2
    have g1 : x.fdiv 256 = x / 256 := Int.fdiv_eq_ediv_of_nonneg _ (by omega)
    have g2 : y.fdiv 256 = y / 256 := Int.fdiv_eq_ediv_of_nonneg _ (by omega)
    rw [g1, g2] at f2
    have : x = y := by omega
    rw [this, e4]
theorem key_eq {a b : List Int} (ha : tells a) (hb : tells b) : pushAll (keyL a) = pushAll (keyL b) ↔ a = b := by
  constructor
  · intro h
    refine key_inj ha hb ?_
    have := congrArg (fun s : ByteArray => s.data.toList) h
    simp only [pushAll, pushAll_data] at this
    simpa using this
  · rintro rfl; rfl
theorem mfind_keys {k : List Int} (hk : tells k) : ∀ {l : List (List Int)}, (∀ p ∈ l, tells p) → mfindA .string (.string (pushAll (keyL k))) (keys l) = some (if k ∈ l then some (eB true) else none)
  | [], _ => rfl
  | s :: l, hl => by
    have hs := hl s (List.mem_cons_self ..)
    have ih := mfind_keys hk (l := l) fun p hp => hl p (List.mem_cons_of_mem _ hp)
    have e : keys (s :: l) = (.string (pushAll (keyL s)), eB true) :: keys l := rfl
    rw [e]
    simp only [mfindA, Instr.sameNow]
    by_cases h : k = s
    · subst h; rw [(ba_eq _ _).2 rfl]; simp
    · rw [ba_ne (fun e => h ((key_eq hk hs).1 e))]
      simp only
      rw [ih]
      simp [h]
theorem mset_keys {k : List Int} (hk : tells k) : ∀ {l : List (List Int)}, (∀ p ∈ l, tells p) → k ∉ l → msetA .string (.string (pushAll (keyL k))) (eB true) (keys l) = some (keys (l ++ [k]))
  | [], _, _ => rfl
  | s :: l, hl, h => by
    simp only [List.mem_cons, not_or] at h
    have hs := hl s (List.mem_cons_self ..)
    have ih := mset_keys hk (l := l) (fun p hp => hl p (List.mem_cons_of_mem _ hp)) h.2
    have e : keys (s :: l) = (.string (pushAll (keyL s)), eB true) :: keys l := rfl
    rw [e]
    simp only [msetA, Instr.sameNow]
    rw [ba_ne (fun e => h.1 ((key_eq hk hs).1 e))]
    simp only
    rw [ih]; rfl
/-- All products of one element with the generators, appended where they are new; none: too many. -/
def addAll (p : List Int) : List (List Int) → List (List Int) → Option (List (List Int))
  | [], l => some l
  | f :: fs, l => if comp' p f ∈ l then addAll p fs l else if 2000 ≤ l.length then none else addAll p fs (l ++ [comp' p f])
/-- From place i on. -/
def genGo (perms : List (List Int)) : Nat → Nat → List (List Int) → Option (List (List Int))
  | 0, i, l => some l
  | k + 1, i, l => if i < l.length then (addAll (gt l i) perms l).bind (genGo perms k (i + 1)) else some l
theorem addAll_len {p : List Int} : ∀ {fs l r : List (List Int)}, addAll p fs l = some r → l.length ≤ 2000 → l.length ≤ r.length ∧ r.length ≤ 2000
  | [], l, r, h, hl => by simp only [addAll, Option.some.injEq] at h; subst h; omega
  | f :: fs, l, r, h, hl => by
    simp only [addAll] at h
    split at h
    · exact addAll_len h hl
    · split at h
      · cases h
      · have := addAll_len h (by simp; omega)
        simp at this; omega
end Go.Proofs.YtbpajecjaoefaaaGreat.V

/- The group that permutations generate (the program's): its walk. -/




namespace Go.Proofs.YtbpajecjaoefaaaGreat.V

open Go Go.RowKit Go.Proofs.Tryz

/-- A transformation of n points. -/
def tf (n : Nat) (p : List Int) : Prop := vt p = true ∧ p.length = n
theorem tf_of {n : Nat} {p : List Int} (h1 : 1 ≤ n) (h2 : n ≤ 32) (hl : p.length = n) (h : inr n p) : tf n p := by
  refine ⟨?_, hl⟩
  simp only [vt, Bool.and_eq_true, decide_eq_true_eq, List.all_eq_true]
  exact ⟨by omega, by rw [hl]; exact h⟩
theorem tf_inr {n : Nat} {p : List Int} (h : tf n p) : 1 ≤ n ∧ n ≤ 32 ∧ inr n p := by
  obtain ⟨h1, h2⟩ := h
  have := vt_inr h1
  rw [h2] at this; exact this
theorem tf_tells {n : Nat} {p : List Int} (h : tf n p) : tells p := fun x hx => by
  obtain ⟨_, h2, h3⟩ := tf_inr h
  have := h3 x hx; omega
theorem tf_comp {n : Nat} {p f : List Int} (hp : tf n p) (hf : tf n f) : tf n (comp' p f) := by
  obtain ⟨h1, h2, h3⟩ := tf_inr hp
  obtain ⟨_, _, h4⟩ := tf_inr hf
  refine tf_of h1 h2 (by simp [comp', hp.2]) fun x hx => ?_
  simp only [comp', List.mem_map] at hx
  obtain ⟨y, hy, rfl⟩ := hx
  have := h3 y hy
  rw [gt_eq this.1 (by rw [hf.2]; exact this.2)]
  exact h4 _ (List.getElem_mem _)
theorem tf_gt {n : Nat} {l : List (List Int)} (h : ∀ p ∈ l, tf n p) {i : Nat} (hi : i < l.length) : tf n (gt l i) := by
  rw [gt_nat hi]; exact h _ (List.getElem_mem _)
abbrev GM (gm g1 gb : Gen) (N : Nat) (l : List (List Int)) : List (Option Blk) := [some (.mp gm Tstring Tbool (keys l)), some (eM g1 TSint 1 N (c1 (LI true)) l), some (.box gb TSSint [.own 1 g1]), none]
theorem Gen_l2 {Γ : Ctx} (hC : Γ F_trans_Compose = some (false, R_tCompose)) (hK : Γ F_group_key = some (false, R_key)) (n : Nat) (perms : List (List Int)) (hP : ∀ p ∈ perms, tf n p) (hPl : perms.length < 2 ^ 46) (I : Nat) (p : List Int) {Q : Exit → St → Prop} (gm gb : Gen) (o : Option (List (List Int)))
    (hn : o = none → ∀ g M, Q .ret (mk 68 [(2, .frz true 1 0 []), (3, eN .i64 3)] M g)) (hy : ∀ l, o = some l → ∀ g g1, Q (.exit 2) (mk 68 [(0, LLI false false perms), (5, .mapr 0 gm), (6, .ptr 2 gb 0), (7, eN .i64 I)] (GM gm g1 gb l.length l) g)) :
    ∀ (m j g : Nat) (g1 : Gen) (l : List (List Int)), j + m = perms.length → (∀ p ∈ l, tf n p) → l.length ≤ 2000 → I < l.length → gt l I = p → addAll p (perms.drop j) l = o →
    W Γ C.group.Generate.L2 (mk 68 [(0, LLI false false perms), (5, .mapr 0 gm), (6, .ptr 2 gb 0), (7, eN .i64 I), (35, LLI false false perms), (36, eN .i64 perms.length), (37, eN .i64 j)] (GM gm g1 gb l.length l) g) Q := by
  intro m
  induction m with
  | zero =>
    intro j g g1 l hi hl hL hI hp ho
    refine W.go C.group.Generate.l2.eq_1 ?_
    simp only [↓cnd_t, ↓cnd_f, ↓cnf_t, ↓cnf_f, VS, astep, Nat.reduceEqDiff, Nat.reduceAdd, Nat.reduceMul, Nat.reduceLT, Nat.reduceLeDiff, Nat.reduceBEq, Int.reduceLT, reduceCtorEq]
    refine ⟨fun h => by omega, fun _ => hy l ?_ _ _⟩
    rw [List.drop_of_length_le (by omega)] at ho
    exact ho.symm
  | succ m ih =>
    intro j g g1 l hi hl hL hI hp ho
    refine W.go C.group.Generate.l2.eq_1 ?_
    simp only [↓cnd_t, ↓cnd_f, ↓cnf_t, ↓cnf_f, VS, astep, Nat.reduceEqDiff, Nat.reduceAdd, Nat.reduceMul, Nat.reduceLT, Nat.reduceLeDiff, Nat.reduceBEq, Int.reduceLT, reduceCtorEq]
    have hj : j < perms.length := by omega
    have tp : tf n p := by rw [← hp]; exact tf_gt hl hI
    have tq := tf_gt hP hj
    have tc := tf_comp tp tq
    have hw : IntKind.i64.wrap (↑j + 1) = ((j + 1 : Nat) : Int) := by rw [wr_in (by omega) (by omega)]; simp
    rw [List.drop_eq_getElem_cons hj, addAll, ← gt_nat hj] at ho
    simp only [hp]
    refine ⟨fun _ => ⟨by omega, by omega, by omega, ?_⟩, fun h => by omega⟩
    refine YC.of (R := R_tCompose) hC [LI false p, LI false (gt perms j)] _ ⟨p, _, tp.1, tq.1, by rw [tp.2, tq.2], rfl, rfl⟩ (.cons (cv_LI ff) (.cons (cv_LI ff) .nil)) ?_
    simp only [↓cnd_t, ↓cnd_f, ↓cnf_t, ↓cnf_f, VS, astep, Nat.reduceEqDiff, Nat.reduceAdd, Nat.reduceMul, Nat.reduceLT, Nat.reduceLeDiff, Nat.reduceBEq, Int.reduceLT, reduceCtorEq]
    refine YC.of (R := R_key) hK [LI false (comp' p (gt perms j))] _ ⟨_, by rw [tc.2]; have := tf_inr tp; omega, rfl, rfl⟩ (.cons (cv_LI ff) .nil) ?_
    by_cases hm : comp' p (gt perms j) ∈ l
    · rw [if_pos hm] at ho
      simp only [↓cnd_t, ↓cnd_f, ↓cnf_t, ↓cnf_f, VS, astep, Nat.reduceEqDiff, Nat.reduceAdd, Nat.reduceMul, Nat.reduceLT, Nat.reduceLeDiff, Nat.reduceBEq, Int.reduceLT, reduceCtorEq, mfind_keys (tf_tells tc) (fun q hq => tf_tells (hl q hq)), hw, hm, Option.getD_some, Option.getD_none, lit_b]
      exact ih (j + 1) _ _ l (by omega) hl hL hI hp ho
    · rw [if_neg hm] at ho
      simp only [↓cnd_t, ↓cnd_f, ↓cnf_t, ↓cnf_f, VS, astep, Nat.reduceEqDiff, Nat.reduceAdd, Nat.reduceMul, Nat.reduceLT, Nat.reduceLeDiff, Nat.reduceBEq, Int.reduceLT, reduceCtorEq, mfind_keys (tf_tells tc) (fun q hq => tf_tells (hl q hq)), hw, hm, Option.getD_some, Option.getD_none, lit_b, mset_keys (tf_tells tc) (fun q hq => tf_tells (hl q hq)) hm]
      refine ⟨fun h2 => ?_, fun h2 => ⟨by omega, ?_⟩⟩
      · rw [if_pos (by omega)] at ho
        exact hn ho.symm _ _
      · rw [if_neg (by omega)] at ho
        have hl' : ∀ q ∈ l ++ [comp' p (gt perms j)], tf n q := by
          intro q hq
          rw [List.mem_append, List.mem_singleton] at hq
          rcases hq with hq | rfl
          · exact hl q hq
          · exact tc
        have hp' : gt (l ++ [comp' p (gt perms j)]) I = p := by
          rw [gt_nat (by simp; omega), List.getElem_append_left hI, ← hp, gt_nat hI]
        have := ih (j + 1) (g + 1 + 1 + 1 + 1 + 1 + 1 + 1 + 1 + 1) (g + 1 + 1 + 1 + 1 + 1 + 1 + 1, 3) (l ++ [comp' p (gt perms j)]) (by omega) hl' (by simp; omega) (by simp; omega) hp' ho
        rw [show l.length + 1 = (l ++ [comp' p (gt perms j)]).length by simp]
        exact this
theorem addAll_tf {n : Nat} {p : List Int} (hp : tf n p) : ∀ {fs l r : List (List Int)}, (∀ f ∈ fs, tf n f) → (∀ q ∈ l, tf n q) → addAll p fs l = some r → ∀ q ∈ r, tf n q
  | [], l, r, _, hl, h => by simp only [addAll, Option.some.injEq] at h; subst h; exact hl
  | f :: fs, l, r, hf, hl, h => by
    simp only [addAll] at h
    have hf' : ∀ g ∈ fs, tf n g := fun g hg => hf g (List.mem_cons_of_mem _ hg)
    split at h
    · exact addAll_tf hp hf' hl h
    · split at h
      · cases h
      · refine addAll_tf hp hf' (fun q hq => ?_) h
        rw [List.mem_append, List.mem_singleton] at hq
        rcases hq with hq | rfl
        · exact hl q hq
        · exact tf_comp hp (hf f (List.mem_cons_self ..))
theorem Gen_l0 {Γ : Ctx} (hC : Γ F_trans_Compose = some (false, R_tCompose)) (hK : Γ F_group_key = some (false, R_key)) (n : Nat) (perms : List (List Int)) (hP : ∀ p ∈ perms, tf n p) (hPl : perms.length < 2 ^ 46) {Q : Exit → St → Prop} (gm gb : Gen) (o : Option (List (List Int)))
    (hn : o = none → ∀ g M, Q .ret (mk 68 [(2, .frz true 1 0 []), (3, eN .i64 3)] M g)) (hy : ∀ l, o = some l → (∀ q ∈ l, tf n q) → l.length ≤ 2000 → ∀ g g1, Q (.exit 0) (mk 68 [(6, .ptr 2 gb 0)] [none, some (eM g1 TSint 1 l.length (c1 (LI true)) l), some (.box gb TSSint [.own 1 g1]), none] g)) :
    ∀ (k i g : Nat) (g1 : Gen) (l : List (List Int)), 2000 ≤ i + k → (∀ p ∈ l, tf n p) → l.length ≤ 2000 → genGo perms k i l = o →
    W Γ C.group.Generate.L0 (mk 68 [(0, LLI false false perms), (5, .mapr 0 gm), (6, .ptr 2 gb 0), (7, eN .i64 i)] (GM gm g1 gb l.length l) g) Q := by
  intro k
  induction k with
  | zero =>
    intro i g g1 l hi hl hL ho
    refine W.go C.group.Generate.l0.eq_1 ?_
    simp only [↓cnd_t, ↓cnd_f, ↓cnf_t, ↓cnf_f, VS, astep, Nat.reduceEqDiff, Nat.reduceAdd, Nat.reduceMul, Nat.reduceLT, Nat.reduceLeDiff, Nat.reduceBEq, Int.reduceLT, reduceCtorEq]
    exact ⟨fun h => by omega, fun _ => hy l ho.symm hl hL _ _⟩
  | succ k ih =>
    intro i g g1 l hi hl hL ho
    refine W.go C.group.Generate.l0.eq_1 ?_
    simp only [↓cnd_t, ↓cnd_f, ↓cnf_t, ↓cnf_f, VS, astep, Nat.reduceEqDiff, Nat.reduceAdd, Nat.reduceMul, Nat.reduceLT, Nat.reduceLeDiff, Nat.reduceBEq, Int.reduceLT, reduceCtorEq]
    rw [genGo] at ho
    refine ⟨fun h => ?_, fun h => hy l ?_ hl hL _ _⟩
    · rw [if_pos (by omega)] at ho
      have hI : i < l.length := by omega
      refine Gen_l2 hC hK n perms hP hPl i (gt l i) gm gb (addAll (gt l i) perms l) ?_ ?_ perms.length 0 _ _ l (by omega) hl hL hI rfl (by simp)
      · intro hn' g M
        simp only [↓cnd_t, ↓cnd_f, ↓cnf_t, ↓cnf_f, VS, astep, Nat.reduceEqDiff, Nat.reduceAdd, Nat.reduceMul, Nat.reduceLT, Nat.reduceLeDiff, Nat.reduceBEq, Int.reduceLT, reduceCtorEq]
        exact hn (by rw [← ho, hn']; rfl) _ _
      · intro l' hl' g g1
        simp only [↓cnd_t, ↓cnd_f, ↓cnf_t, ↓cnf_f, VS, astep, Nat.reduceEqDiff, Nat.reduceAdd, Nat.reduceMul, Nat.reduceLT, Nat.reduceLeDiff, Nat.reduceBEq, Int.reduceLT, reduceCtorEq]
        have hb := addAll_len hl' hL
        rw [wr_in (by omega) (by omega)]
        rw [hl'] at ho
        exact ih (i + 1) _ _ l' (by omega) (addAll_tf (tf_gt hl hI) hP hl hl') hb.2 ho
    · rw [if_neg (by omega)] at ho; exact ho.symm
theorem prms_tf {perms : List (List Int)} (h : prms perms = true) : ∀ p ∈ perms, tf (gt perms 0).length p := by
  intro p hp
  rw [prms, List.all_eq_true] at h
  have := h p hp
  simp only [perm, Bool.and_eq_true, decide_eq_true_eq] at this
  exact ⟨this.1.1, this.2⟩
theorem tf_iota {n : Nat} (h1 : 1 ≤ n) (h2 : n ≤ 32) : tf n (iota n) := tf_of h1 h2 (iota_len n) fun x hx => by
  simp only [iota, List.mem_map, List.mem_range] at hx
  obtain ⟨i, hi, rfl⟩ := hx
  omega
/-- What Generate hands back. -/
def genF (perms : List (List Int)) : List (List Int) × Int :=
  if perms.length = 0 then ([], 1) else if prms perms then
    (match genGo perms 2000 0 [iota (gt perms 0).length] with | some l => (srtBy lexL l, 0) | none => ([], 3))
  else ([], 4)
def R_Gen (args : List AV) (r : AV) : Prop := ∃ perms : List (List Int), small perms ∧ args = [LLI false false perms] ∧ r = .tup [LLI true true (genF perms).1, eN .i64 (genF perms).2]
theorem fk_Gen : Fk prog ⟨F_group_Generate, false, R_Gen⟩ := C.group.Generate.fkS (es := [⟨F_group_permutations, false, R_prms⟩, ⟨F_trans_Identity, false, R_ident⟩, ⟨F_group_key, false, R_key⟩, ⟨F_trans_Compose, false, R_tCompose⟩]) (ss := [⟨F_sort_Slice, S_sortLLI⟩])
    ⟨fk_prms, fk_ident, fk_key, fk_tCompose, trivial⟩ ⟨fsp_sortLLI, trivial⟩ <| by
  rintro _ _ ⟨perms, hs, rfl, rfl⟩
  refine ⟨Run.of C.group.Generate.top.eq_1 (by simp) ?_, fun _ => fr_2 (fr_LLI _) (.lit _)⟩
  simp only [↓cnd_t, ↓cnd_f, ↓cnf_t, ↓cnf_f, VS, astep, Nat.reduceEqDiff, Nat.reduceAdd, Nat.reduceMul, Nat.reduceLT, Nat.reduceLeDiff, Nat.reduceBEq, Int.reduceLT, reduceCtorEq, enum, C.group.Generate.rs]
  refine ⟨fun h => ?_, fun h => ?_⟩
  · rw [genF, if_pos (by omega)]
    exact ends_2 (by decide) (by decide) (cv_LLI (l := []) (fun _ => ⟨rfl, rfl⟩) (fun _ => ⟨rfl, rfl⟩)) (.lit _)
  · refine YC.of (R := R_prms) rfl [LLI false false perms] _ ⟨perms, hs, rfl, rfl⟩ (.cons (cv_LLI ff ff) .nil) ?_
    simp only [↓cnd_t, ↓cnd_f, ↓cnf_t, ↓cnf_f, VS, astep, Nat.reduceEqDiff, Nat.reduceAdd, Nat.reduceMul, Nat.reduceLT, Nat.reduceLeDiff, Nat.reduceBEq, Int.reduceLT, reduceCtorEq]
    refine ⟨fun hp => ?_, fun hp => ⟨by omega, ?_⟩⟩
    · rw [genF, if_neg (by omega), if_neg (by rw [hp]; simp)]
      exact ends_2 (by decide) (by decide) (cv_LLI (l := []) (fun _ => ⟨rfl, rfl⟩) (fun _ => ⟨rfl, rfl⟩)) (.lit _)
    · have hP := prms_tf hp
      have h0 : gt perms 0 ∈ perms := by rw [show (0 : Int) = ((0 : Nat) : Int) from rfl, gt_nat (by omega)]; exact List.getElem_mem _
      obtain ⟨n1, n2, _⟩ := tf_inr (hP _ h0)
      have ti := tf_iota n1 n2
      refine YC.of (R := R_ident) rfl [eN .i64 (gt perms 0).length] _ ⟨_, n1, n2, rfl, rfl⟩ (.cons (.lit _) .nil) ?_
      simp only [↓cnd_t, ↓cnd_f, ↓cnf_t, ↓cnf_f, VS, astep, Nat.reduceEqDiff, Nat.reduceAdd, Nat.reduceMul, Nat.reduceLT, Nat.reduceLeDiff, Nat.reduceBEq, Int.reduceLT, reduceCtorEq]
      refine YC.of (R := R_key) rfl [LI false (iota (gt perms 0).length)] _ ⟨_, by rw [iota_len]; omega, rfl, rfl⟩ (.cons (cv_LI ff) .nil) ?_
      have e0 : msetA .string (.string (pushAll (keyL (iota (gt perms 0).length)))) (.lit (.bool true)) [] = some (keys [iota (gt perms 0).length]) := rfl
      simp only [↓cnd_t, ↓cnd_f, ↓cnf_t, ↓cnf_f, VS, astep, Nat.reduceEqDiff, Nat.reduceAdd, Nat.reduceMul, Nat.reduceLT, Nat.reduceLeDiff, Nat.reduceBEq, Int.reduceLT, reduceCtorEq, e0]
      refine Gen_l0 rfl rfl (gt perms 0).length perms hP hs.1 (4, 0) (5, 2) (genGo perms 2000 0 [iota (gt perms 0).length]) ?_ ?_ 2000 0 _ (5, 1) [iota (gt perms 0).length] (by omega) (fun q hq => by simp only [List.mem_singleton] at hq; subst hq; exact ti) (by simp) rfl
      · intro hn g M
        simp only [↓cnd_t, ↓cnd_f, ↓cnf_t, ↓cnf_f, VS, astep, Nat.reduceEqDiff, Nat.reduceAdd, Nat.reduceMul, Nat.reduceLT, Nat.reduceLeDiff, Nat.reduceBEq, Int.reduceLT, reduceCtorEq]
        have e : genF perms = ([], 3) := by rw [genF, if_neg (by omega), if_pos hp, hn]
        rw [e]
        exact ends_2 (by decide) (by decide) (cv_LLI (l := []) (fun _ => ⟨rfl, rfl⟩) (fun _ => ⟨rfl, rfl⟩)) (.lit _)
      · intro l hl hq hL g g1
        have e : genF perms = (srtBy lexL l, 0) := by rw [genF, if_neg (by omega), if_pos hp, hl]
        rw [e]
        simp only [↓cnd_t, ↓cnd_f, ↓cnf_t, ↓cnf_f, VS, astep, Nat.reduceEqDiff, Nat.reduceAdd, Nat.reduceMul, Nat.reduceLT, Nat.reduceLeDiff, Nat.reduceBEq, Int.reduceLT, reduceCtorEq]
        refine YC.sp (R := S_sortLLI) rfl (.tup []) _ ⟨1, 2, g1, (5, 2), TSint, TSSint, l, by omega, fun x hx => by show x.length < 2 ^ 46; rw [(hq x hx).2]; omega, rfl, rfl, rfl, rfl, rfl⟩ ?_
        simp only [↓cnd_t, ↓cnd_f, ↓cnf_t, ↓cnf_f, VS, astep, Nat.reduceEqDiff, Nat.reduceAdd, Nat.reduceMul, Nat.reduceLT, Nat.reduceLeDiff, Nat.reduceBEq, Int.reduceLT, reduceCtorEq]
        refine ends_2 (by decide) (by decide) ?_ (.lit _)
        exact cv_oLI bk1 (fun _ => rfl) (fun _ => ⟨rfl, rfl⟩)
end Go.Proofs.YtbpajecjaoefaaaGreat.V

/- The abstract machine, run: a function whose arguments are known comes to what it comes to. -/
namespace Go.Proofs.YtbpajecjaoefaaaGreat.V
open Go Go.RowKit

def allM (f : AV → Option AV) : List AV → Option (List AV)
  | [] => some []
  | x :: xs => match f x, allM f xs with
    | some y, some ys => some (y :: ys)
    | _, _ => none
theorem allM_some {f : AV → Option AV} {p : AV → AV → Prop} (hf : ∀ x y, f x = some y → p x y) : ∀ {xs ys : List AV}, allM f xs = some ys → ys.length = xs.length ∧ ∀ (j : Nat) (x y : AV), xs[j]? = some x → ys[j]? = some y → p x y
  | [], ys, h => by
    simp only [allM, Option.some.injEq] at h; subst h
    exact ⟨rfl, fun j x y hx => by simp at hx⟩
  | x :: xs, ys, h => by
    simp only [allM] at h
    split at h
    · rename_i y ys' h1 h2
      injection h with h; subst h
      obtain ⟨i1, i2⟩ := allM_some hf h2
      refine ⟨by simp [i1], fun j a b ha hb => ?_⟩
      cases j with
      | zero => simp at ha hb; subst ha; subst hb; exact hf _ _ h1
      | succ j => exact i2 j a b (by simpa using ha) (by simpa using hb)
    · cases h
/-- What is handed over. -/
noncomputable def cvt (st : St) (O L : Bool) (n : Nat) : AV → Option AV :=
  Nat.rec (fun _ => none) (fun _ ih x => match x with
    | .lit v => some (.lit v)
    | .frz lab k n cs => (allM ih cs).map (.frz (lab && L) k n)
    | .own id g => if O then match st.blk id g with | some (.row _ _ k m cs) => (allM ih cs).map (.frz L k m) | _ => none else none
    | .sub id g k off len => if O then match st.blk id g with | some (.row _ _ k' m cs) => if k' = k ∧ off + len ≤ m then (allM ih ((cs.drop (off * k)).take (len * k))).map (.frz L k len) else none | _ => none else none
    | .agg cs => (allM ih cs).map .agg
    | .tup cs => (allM ih cs).map .tup
    | .ifc t x => (ih x).map (.ifc t)
    | _ => none) n
theorem cvt_cv {st : St} {O L : Bool} : ∀ (n : Nat) (x y : AV), cvt st O L n x = some y → Cv st O L x y := by
  intro n
  induction n with
  | zero => intro x y h; cases h
  | succ n ih =>
    intro x y h
    have hm : ∀ {α : Type} {o : Option α} {g : α → AV}, o.map g = some y → ∃ z, o = some z ∧ g z = y := by
      intro α o g h
      cases o with
      | none => cases h
      | some z => exact ⟨z, rfl, by simpa using h⟩
    cases x with
    | lit v => injection h with h; subst h; exact .lit v
    | frz lab k m cs =>
      obtain ⟨ys, h1, rfl⟩ := hm h
      obtain ⟨i1, i2⟩ := allM_some (p := Cv st O L) ih h1
      exact .frz (fun e => by simpa [and_comm] using e) i1 i2
    | own id g =>
      have h : (if O then match st.blk id g with | some (.row _ _ k m cs) => (allM (cvt st O L n) cs).map (AV.frz L k m) | _ => none else none) = some y := h
      split at h
      · rename_i hO
        split at h
        · rename_i hb
          obtain ⟨ys, h1, rfl⟩ := hm h
          obtain ⟨i1, i2⟩ := allM_some (p := Cv st O L) ih h1
          exact .own hO hb (fun e => e) i1 i2
        · cases h
      · cases h
    | sub id g k off len =>
      have h : (if O then match st.blk id g with | some (.row _ _ k' m cs) => if k' = k ∧ off + len ≤ m then (allM (cvt st O L n) ((cs.drop (off * k)).take (len * k))).map (AV.frz L k len) else none | _ => none else none) = some y := h
      split at h
      · rename_i hO
        split at h
        · rename_i hb
          split at h
          · rename_i hk; obtain ⟨rfl, hk⟩ := hk
            obtain ⟨ys, h1, rfl⟩ := hm h
            obtain ⟨i1, i2⟩ := allM_some (p := Cv st O L) ih h1
            exact .sub hO hb hk (fun e => e) i1 i2
          · cases h
        · cases h
      · cases h
    | agg cs =>
      obtain ⟨ys, h1, rfl⟩ := hm h
      obtain ⟨i1, i2⟩ := allM_some (p := Cv st O L) ih h1
      exact .agg i1 i2
    | tup cs =>
      obtain ⟨ys, h1, rfl⟩ := hm h
      obtain ⟨i1, i2⟩ := allM_some (p := Cv st O L) ih h1
      exact .tup i1 i2
    | ifc t x =>
      obtain ⟨z, h1, rfl⟩ := hm h
      exact .ifc (ih _ _ h1)
    | _ => cases h
noncomputable def frb (n : Nat) : AV → Bool :=
  Nat.rec (fun _ => false) (fun _ ih x => match x with
    | .lit _ => true
    | .frz lab _ n cs => lab && cs.all ih || Nat.beq n 0 && cs.isEmpty
    | .agg cs => cs.all ih
    | .tup cs => cs.all ih
    | .ifc _ x => ih x
    | _ => false) n
theorem frb_fr : ∀ (n : Nat) (x : AV), frb n x = true → Fr x := by
  intro n
  induction n with
  | zero => intro x h; cases h
  | succ n ih =>
    intro x h
    have all : ∀ {cs : List AV}, cs.all (frb n) = true → ∀ (j : Nat) (x : AV), cs[j]? = some x → Fr x := by
      intro cs h j x hx
      rw [List.all_eq_true] at h
      exact ih x (h x (List.mem_of_getElem? hx))
    cases x with
    | lit v => exact .lit v
    | frz lab k m cs =>
      have h' : (lab && cs.all (frb n) || Nat.beq m 0 && cs.isEmpty) = true := h
      clear h
      rw [Bool.or_eq_true, Bool.and_eq_true, Bool.and_eq_true] at h'
      rcases h' with ⟨h0, h1⟩ | ⟨h1, h2⟩
      · subst h0; exact .frz (all h1)
      · have := Nat.eq_of_beq_eq_true h1; subst this
        have : cs = [] := by simpa using h2
        subst this; exact .frz0
    | agg cs => exact .agg (all h)
    | tup cs => exact .tup (all h)
    | ifc t x => exact .ifc (ih x h)
    | _ => cases h
/-- Functions that are run; functions that write what they are handed. -/
structure FE where
  f : Nat
  leak : Bool
  F : List AV → Option AV
structure SE where
  f : Nat
  G : St → List AV → Option (AV × List (Option Blk))
def FE.ent (e : FE) : Ent := ⟨e.f, e.leak, fun a r => e.F a = some r⟩
def SE.spe (e : SE) : Spe := ⟨e.f, fun _ st xs r M => e.G st xs = some (r, M)⟩
def fnd : List FE → Nat → Option (Bool × (List AV → Option AV))
  | [], _ => none
  | e :: es, f => if f = e.f then some (e.leak, e.F) else fnd es f
def fndS : List SE → Nat → Option (St → List AV → Option (AV × List (Option Blk)))
  | [], _ => none
  | e :: es, f => if f = e.f then some e.G else fndS es f
theorem fnd_ctx : ∀ {es : List FE} {f : Nat} {l : Bool} {F : List AV → Option AV}, fnd es f = some (l, F) → ctxF (es.map FE.ent) f = some (l, fun a r => F a = some r)
  | [], f, l, F, h => by cases h
  | e :: es, f, l, F, h => by
    simp only [fnd] at h
    simp only [List.map_cons, ctxF]
    split at h
    · rename_i hf
      injection h with h; injection h with h1 h2; subst h1; subst h2
      rw [if_pos (by exact hf)]; rfl
    · rename_i hf
      rw [if_neg (by exact hf)]; exact fnd_ctx h
theorem fndS_ctx : ∀ {es : List SE} {f : Nat} {G : St → List AV → Option (AV × List (Option Blk))}, fndS es f = some G → ctxS (es.map SE.spe) f = some (fun _ st xs r M => G st xs = some (r, M))
  | [], f, G, h => by cases h
  | e :: es, f, G, h => by
    simp only [fndS] at h
    simp only [List.map_cons, ctxS]
    split at h
    · rename_i hf
      injection h with h; subst h
      rw [if_pos (by exact hf)]; rfl
    · rename_i hf
      rw [if_neg (by exact hf)]; exact fndS_ctx h
abbrev ctxE (es : List FE) (ss : List SE) : Ctx := ctx (es.map FE.ent) (ss.map SE.spe)
/-- One operation; a call is one of es. -/
noncomputable def actRun (es : List FE) (i : Nat) (ao : AO) (st : St) : Option (AV × List (Option Blk)) :=
  match ao with
  | .call f xs => match fnd es f with
    | some (l, F) => match allM (cvt st (!l) false 12) (xs.map st.ev) with
      | some args => (F args).map fun r => (r, st.M)
      | none => none
    | none => none
  | ao => astep i st ao
def onB (c : COp) (st : St) : Option Bool := match c.guard with
  | none => some true
  | some (t, want) => match st.tm[t]? with
    | some (.lit (.bool y)) => some (y == want)
    | _ => none
theorem onB_on {c : COp} {st : St} {b : Bool} (h : onB c st = some b) : c.on st b := by
  unfold onB at h
  unfold COp.on
  split at h
  · rename_i e; rw [e]; injection h with h; exact h.symm
  · rename_i t want e
    rw [e]
    split at h
    · rename_i y hy; injection h with h; exact ⟨y, hy, h.symm⟩
    · cases h
theorem actRun_eff {es : List FE} {ss : List SE} {i : Nat} {c : COp} {st : St} {r : AV} {M' : List (Option Blk)} (hon : c.on st true) (h : actRun es i c.ao st = some (r, M')) : Eff (ctxE es ss) i c st r M' := by
  unfold actRun at h
  split at h
  · rename_i f xs hc
    split at h
    · rename_i l F hf
      split at h
      · rename_i args ha
        cases hF : F args with
        | none => rw [hF] at h; cases h
        | some r' =>
          rw [hF] at h; injection h with h; injection h with h1 h2; subst h1; subst h2
          obtain ⟨i1, i2⟩ := allM_some (p := Cv st (!l) false) (cvt_cv 12) ha
          refine .call hon hc (fnd_ctx hf) (by rw [i1]; simp) (fun j x y hx hy => i2 j _ y (by rw [List.getElem?_map, hx]; rfl) hy) hF
      · cases h
    · cases h
  · rename_i ao hn
    refine .op hon ?_ h
    cases hc : c.ao <;> first | rfl | exact absurd hc (hn _ _)
noncomputable def opRun (es : List FE) (i : Nat) (c : COp) (st : St) : Option (AV × List (Option Blk)) :=
  match onB c st with
  | some true => actRun es i c.ao st
  | some false => some (.junk, st.M)
  | none => none
theorem opRun_eff {es : List FE} {ss : List SE} {i : Nat} {c : COp} {st : St} {r : AV} {M' : List (Option Blk)} (h : opRun es i c st = some (r, M')) : Eff (ctxE es ss) i c st r M' := by
  unfold opRun at h
  split at h
  · rename_i e; exact actRun_eff (onB_on e) h
  · rename_i e; injection h with h; injection h with h1 h2; subst h1; subst h2; exact .off (onB_on e)
  · cases h
/-- A call of one of ss. -/
def spRun (ss : List SE) (c : COp) (st : St) : Option (Option (AV × List (Option Blk))) :=
  match c.ao with
  | .call f xs => match fndS ss f with
    | some G => match onB c st with
      | some true => some (G st (xs.map st.ev))
      | _ => none
    | none => none
  | _ => none
noncomputable def opsRun (es : List FE) (ss : List SE) : Nat → List COp → St → Option St
  | _, [], st => some st
  | i, c :: cs, st => match spRun ss c st with
    | some none => none
    | some (some (r, M')) => opsRun es ss (i + 1) cs ({ st with M := M' }.put c.dst r)
    | none => match opRun es i c st with
      | some (r, M') => opsRun es ss (i + 1) cs ({ st with M := M' }.put c.dst r)
      | none => none
theorem opsRun_sq {es : List FE} {ss : List SE} : ∀ {i : Nat} {cs : List COp} {st st' : St}, opsRun es ss i cs st = some st' → Sq (ctxE es ss) i cs st st'
  | i, [], st, st', h => by injection h with h; subst h; exact .nil
  | i, c :: cs, st, st', h => by
    simp only [opsRun] at h
    split at h
    · cases h
    · rename_i r M' hs
      unfold spRun at hs
      split at hs
      · rename_i f xs hc
        split at hs
        · rename_i G hG
          split at hs
          · rename_i hb
            injection hs with hs
            exact .consX (onB_on hb) hc (fndS_ctx hG) hs (opsRun_sq h)
          · cases hs
        · cases hs
      · cases hs
    · split at h
      · rename_i r M' ho
        exact .cons (opRun_eff ho) (opsRun_sq h)
      · cases h
/-- Which block an operation turns. -/
def turned (st : St) : AO → Option Nat
  | .nilr id _ _ | .mk id _ _ _ _ _ _ | .sl id _ _ _ _ _ | .box id _ _ _ | .alc id _ _ | .mkm id _ _ => some id
  | .app id _ _ _ x _ => match st.ev x with | .own id' _ => some id' | _ => some id
  | .store _ x _ => match st.ev x with | .ptr id _ _ => some id | _ => none
  | .mset _ m _ _ => match st.ev m with | .mapr id _ => some id | _ => none
  | _ => none
def upAt (M : List (Option Blk)) : Option Nat → U
  | none => none
  | some id => match M[id]? with
    | some (some B) => some (id, B)
    | _ => none
theorem upAt_set {M : List (Option Blk)} {id : Nat} {B : Blk} (h : id < M.length) : M.set id (some B) = upM M (upAt (M.set id (some B)) (some id)) := by
  simp [upAt, upM, h]
theorem blk_lt {st : St} {id : Nat} {g : Gen} {B : Blk} (h : st.blk id g = some B) : id < st.M.length := (List.getElem?_eq_some_iff.1 (St.blk_some h).1).1
set_option maxHeartbeats 1000000 in
theorem astep_turned {i : Nat} {st : St} {ao : AO} {r : AV} {M' : List (Option Blk)} (h : astep i st ao = some (r, M')) : M' = upM st.M (upAt M' (turned st ao)) := by
  have fin : ∀ {id : Nat} {B : Blk}, id < st.M.length → M' = st.M.set id (some B) → M' = upM st.M (upAt M' (some id)) := by
    intro id B hlt e; rw [e]; exact upAt_set hlt
  cases ao with
  | nilr id e k => simp only [astep] at h; split at h <;> cases h; rename_i h1; exact fin h1.1 rfl
  | mk id e k by_ z x y => simp only [astep] at h; repeat' split at h
                           all_goals first | (cases h; done) | skip
                           rename_i h1; cases h; exact fin h1.1 rfl
  | sl id e k len z parts => simp only [astep] at h; split at h <;> cases h; rename_i h1; exact fin h1.1 rfl
  | box id t n x => simp only [astep] at h; split at h <;> cases h; rename_i h1; exact fin h1.1 rfl
  | alc id t z => simp only [astep] at h; split at h <;> cases h; rename_i h1; exact fin h1 rfl
  | mkm id kt vt => simp only [astep] at h; split at h <;> cases h; rename_i h1; exact fin h1 rfl
  | store n x v =>
    simp only [astep] at h
    split at h
    · rename_i id g off e
      simp only [turned, e]
      split at h
      · split at h
        · rename_i hb; split at h <;> cases h; exact fin (blk_lt hb) rfl
        · rename_i hb; split at h <;> cases h; exact fin (blk_lt hb) rfl
        · cases h
      · cases h
    · cases h
  | app id e k by_ x y =>
    simp only [astep] at h
    split at h
    · split at h
      · rename_i id' g ex
        simp only [turned, ex]
        split at h
        · rename_i hb; split at h <;> cases h; exact fin (blk_lt hb) rfl
        · cases h
      · rename_i ex
        simp only [turned, ex]
        split at h <;> cases h; rename_i h1; exact fin h1.1 rfl
      · cases h
    · cases h
  | mset kd m k v =>
    simp only [astep] at h
    split at h
    · rename_i id g kv e1 e2
      simp only [turned, e1]
      split at h
      · rename_i hb
        split at h
        · cases hm : msetA kd kv (st.ev v) _ with
          | none => rw [hm] at h; cases h
          | some es' => rw [hm] at h; cases h; exact fin (blk_lt hb) rfl
        · cases h
      · cases h
    · cases h
  | lkp ok kd z m k =>
    simp only [astep] at h
    split at h
    · split at h
      · split at h
        · rename_i h1
          cases hm : mfindA kd _ _ with
          | none => rw [hm] at h; cases h
          | some es' => rw [hm] at h; cases h; rfl
        · cases h
      · cases h
    · cases h
  | call f xs => cases h
  | mov x => cases h; rfl
  | nilf lab k => cases h; rfl
  | ifc t x => cases h; rfl
  | clo f xs => cases h; rfl
  | bin b x y => simp only [astep] at h; (repeat' split at h) <;> first | (cases h; done) | (simp only [Option.map_eq_some_iff] at h; obtain ⟨z, _, h⟩ := h; cases h; rfl)
  | aeq neg ds x y => simp only [astep] at h; (repeat' split at h) <;> first | (cases h; done) | (simp only [Option.map_eq_some_iff] at h; obtain ⟨z, _, h⟩ := h; cases h; rfl)
  | un u x => simp only [astep] at h; (repeat' split at h) <;> first | (cases h; done) | (simp only [Option.map_eq_some_iff] at h; obtain ⟨z, _, h⟩ := h; cases h; rfl)
  | b2s x => simp only [astep] at h; (repeat' split at h) <;> first | (cases h; done) | (simp only [Option.map_eq_some_iff] at h; obtain ⟨z, _, h⟩ := h; cases h; rfl)
  | ext j x => simp only [astep] at h; (repeat' split at h) <;> first | (cases h; done) | (simp only [Option.map_eq_some_iff] at h; obtain ⟨z, _, h⟩ := h; cases h; rfl)
  | fld off n ag x => simp only [astep] at h; (repeat' split at h) <;> first | (cases h; done) | (cases h; rfl) | (simp only [Option.map_eq_some_iff] at h; obtain ⟨z, _, h⟩ := h; cases h; rfl)
  | _ => simp only [astep] at h; (repeat' split at h) <;> first | (cases h; done) | (cases h; rfl)
noncomputable def dopsRun (es : List FE) : Nat → List COp → List Ann → St → Option St
  | _, [], [], st => some st
  | i, c :: cs, an :: ans, st => match opRun es i c (st.restr an.T) with
    | some (r, M') => 
      let u := match onB c (st.restr an.T) with | some true => upAt M' (turned (st.restr an.T) c.ao) | _ => none
      match u with
      | none => dopsRun es (i + 1) cs ans (st.put c.dst r)
      | some (id, B) => if an.W.contains id then dopsRun es (i + 1) cs ans ({ st with M := st.M.set id (some B) }.put c.dst r) else none
    | none => none
  | _, _, _, _ => none
theorem dopsRun_dsq {es : List FE} {ss : List SE} : ∀ {i : Nat} {cs : List COp} {ans : List Ann} {st st' : St}, dopsRun es i cs ans st = some st' → ∃ ps, DSq (ctxE es ss) i cs ans st ps st'
  | i, [], [], st, st', h => by injection h with h; subst h; exact ⟨_, .nil⟩
  | i, [], _ :: _, st, st', h => by cases h
  | i, _ :: _, [], st, st', h => by cases h
  | i, c :: cs, an :: ans, st, st', h => by
    simp only [dopsRun] at h
    split at h
    · rename_i r M' ho
      generalize hu : (match onB c (st.restr an.T) with | some true => upAt M' (turned (st.restr an.T) c.ao) | _ => none : U) = u at h
      have he : M' = upM (st.restr an.T).M u := by
        unfold opRun at ho
        split at ho
        · rename_i hb
          rw [hb] at hu; simp only at hu; subst hu
          unfold actRun at ho
          split at ho
          · rename_i f xs hc
            have : M' = (st.restr an.T).M := by
              split at ho
              · split at ho
                · simp only [Option.map_eq_some_iff] at ho
                  obtain ⟨z, _, ho⟩ := ho; injection ho with h1 h2; exact h2.symm
                · cases ho
              · cases ho
            rw [hc]; simp only [turned, upAt, upM]; exact this
          · exact astep_turned ho
        · rename_i hb
          rw [hb] at hu; simp only at hu; subst hu
          injection ho with ho; injection ho with h1 h2; exact h2.symm
        · cases ho
      split at h
      · obtain ⟨ps, hp⟩ := dopsRun_dsq (ss := ss) h
        refine ⟨(r, none) :: ps, .cons (by rw [← he]; exact opRun_eff ho) (fun p hp => by cases hp) ?_⟩
        exact hp
      · rename_i id B
        split at h
        · rename_i hW
          obtain ⟨ps, hp⟩ := dopsRun_dsq (ss := ss) h
          refine ⟨(r, some (id, B)) :: ps, .cons (by rw [← he]; exact opRun_eff ho) (fun p hp => ?_) hp⟩
          injection hp with hp; subst hp; simpa using hW
        · cases h
    · cases h
/-- Rows that are given up ahead of a region that makes new ones in their place. -/
def frzAt (st : St) (id : Nat) : St := match st.M[id]? with
  | some (some (.row g _ k n cs)) => ⟨st.tm.map (fz id g k n cs), (updM (fz id g k n cs) st.M).set id none, st.g⟩
  | _ => st
def newId : AO → Option Nat
  | .nilr id _ _ | .mk id _ _ _ _ _ _ | .sl id _ _ _ _ _ => some id
  | .app id _ _ _ (.k _) _ => some id
  | _ => none
def pre (st : St) : List COp → St
  | [] => st
  | c :: cs => match newId c.ao with
    | some id => pre (frzAt st id) cs
    | none => pre st cs
theorem Wk.refl (st : St) : Wk st st := fun _ h => ⟨_, _, h⟩
theorem Wk.trans {s t u : St} (h : Wk s t) (k : Wk t u) : Wk s u := fun hS x => by
  obtain ⟨X', H', y⟩ := h hS x
  exact k hS y
theorem Wk.frzAt (st : St) (id : Nat) : Wk st (V.frzAt st id) := by
  unfold V.frzAt
  split
  · rename_i h; exact Wk.frz h
  · exact Wk.refl _
theorem Wk.pre : ∀ (cs : List COp) (st : St), Wk st (V.pre st cs)
  | [], st => Wk.refl _
  | c :: cs, st => by
    simp only [V.pre]
    split
    · exact Wk.trans (Wk.frzAt st _) (Wk.pre cs _)
    · exact Wk.pre cs st
noncomputable def run (es : List FE) (ss : List SE) (n : Nat) : AC → St → Option (Exit × St) :=
  Nat.rec (fun _ _ => none) (fun _ ih ac st => match ac with
    | .skip => some (.normal, st)
    | .reg ops kp => match opsRun es ss 0 ops (pre st ops) with
      | some s => some (.normal, St.keep { s with g := s.g + 1 } kp)
      | none => none
    | .dreg ops ans kp => match dopsRun es 0 ops ans (pre st ops) with
      | some s => some (.normal, St.keep { s with g := s.g + 1 } kp)
      | none => none
    | .seq a b => match ih a st with
      | some (.normal, s) => ih b s
      | r => r
    | .cond x a b => match st.ev x with
      | .lit (.bool true) => ih a st
      | .lit (.bool false) => ih b st
      | _ => none
    | .block id a => match ih a st with
      | some (.exit j, s) => some (if j = id then .normal else .exit j, s)
      | r => r
    | .loop a kp => match ih a (st.keep kp) with
      | some (.normal, s) => ih (.loop a kp) s
      | r => r
    | .exit id kp => some (.exit id, st.keep kp)
    | .ret => some (.ret, st)) n
/-- How code may end. -/
def okE : Exit → Prop
  | .normal | .exit _ | .ret => True
  | _ => False
theorem run_ex {es : List FE} {ss : List SE} : ∀ (n : Nat) (ac : AC) (st : St) (e : Exit) (s : St), run es ss n ac st = some (e, s) → Ex (ctxE es ss) ac st e s ∧ okE e := by
  intro n
  induction n with
  | zero => intro ac st e s h; cases h
  | succ n ih =>
    intro ac st e s h
    cases ac with
    | skip => injection h with h; injection h with h1 h2; subst h1; subst h2; exact ⟨.skip, trivial⟩
    | reg ops kp =>
      have h : (match opsRun es ss 0 ops (pre st ops) with
        | some s => some (Exit.normal, St.keep { s with g := s.g + 1 } kp)
        | none => none) = some (e, s) := h
      split at h
      · rename_i s' h1
        injection h with h; injection h with h1 h2; subst h1; subst h2
        exact ⟨.wk (Wk.pre ops st) (.reg (opsRun_sq (by assumption))), trivial⟩
      · cases h
    | dreg ops ans kp =>
      have h : (match dopsRun es 0 ops ans (pre st ops) with
        | some s => some (Exit.normal, St.keep { s with g := s.g + 1 } kp)
        | none => none) = some (e, s) := h
      split at h
      · rename_i s' h1
        injection h with h; injection h with h2 h3; subst h2; subst h3
        obtain ⟨ps, hp⟩ := dopsRun_dsq (ss := ss) h1
        exact ⟨.wk (Wk.pre ops st) (.dreg hp), trivial⟩
      · cases h
    | seq a b =>
      have h : (match run es ss n a st with
        | some (.normal, s) => run es ss n b s
        | r => r) = some (e, s) := h
      split at h
      · rename_i s1 h1
        obtain ⟨k1, k2⟩ := ih b s1 e s h
        exact ⟨.seqN (ih a st _ _ h1).1 k1, k2⟩
      · rename_i r hr
        obtain ⟨k1, k2⟩ := ih a st _ _ h
        refine ⟨.seqX k1 ?_, k2⟩
        rintro rfl; exact hr _ h
    | cond x a b =>
      have h : (match st.ev x with
        | .lit (.bool true) => run es ss n a st
        | .lit (.bool false) => run es ss n b st
        | _ => none) = some (e, s) := h
      split at h
      · rename_i hx; obtain ⟨k1, k2⟩ := ih a st e s h; exact ⟨.cond (y := true) hx k1, k2⟩
      · rename_i hx; obtain ⟨k1, k2⟩ := ih b st e s h; exact ⟨.cond (y := false) hx k1, k2⟩
      · cases h
    | block id a =>
      have h : (match run es ss n a st with
        | some (.exit j, s) => some (if j = id then Exit.normal else .exit j, s)
        | r => r) = some (e, s) := h
      split at h
      · rename_i j s1 h1
        injection h with h; injection h with h2 h3; subst h3
        obtain ⟨k1, _⟩ := ih a st _ _ h1
        split at h2
        · rename_i e1; subst e1; subst h2; exact ⟨.blockX k1, trivial⟩
        · rename_i e1; subst h2; exact ⟨.blockO k1 e1, trivial⟩
      · rename_i r hr
        obtain ⟨k1, k2⟩ := ih a st _ _ h
        cases e with
        | normal => exact ⟨.blockN k1, trivial⟩
        | exit j => exact absurd h (hr _ _)
        | ret => exact ⟨.blockR k1, trivial⟩
        | _ => exact k2.elim
    | loop a kp =>
      have h : (match run es ss n a (st.keep kp) with
        | some (.normal, s) => run es ss n (.loop a kp) s
        | r => r) = some (e, s) := h
      split at h
      · rename_i s1 h1
        obtain ⟨k1, k2⟩ := ih (.loop a kp) s1 e s h
        exact ⟨.loopN (ih a _ _ _ h1).1 k1, k2⟩
      · rename_i r hr
        obtain ⟨k1, k2⟩ := ih a _ _ _ h
        refine ⟨.loopX k1 ?_, k2⟩
        rintro rfl; exact hr _ h
    | exit id kp => injection h with h; injection h with h1 h2; subst h1; subst h2; exact ⟨.exit, trivial⟩
    | ret => injection h with h; injection h with h1 h2; subst h1; subst h2; exact ⟨.ret, trivial⟩
/-- A function's run. -/
noncomputable def fnRun (es : List FE) (ss : List SE) (n : Nat) (ac : AC) (rs : List RV) (nt ns : Nat) (leak : Bool) (args : List AV) : Option AV :=
  match run es ss n ac (st0 nt ns args) with
  | some (e, s) => match e with
    | .ret | .normal => match s.rvs rs with
      | some xs => match cvt s true true 12 (resAV xs) with
        | some r => if leak || frb 12 r then some r else none
        | none => none
      | none => none
    | _ => none
  | none => none
theorem fnRun_run {es : List FE} {ss : List SE} {n : Nat} {ac : AC} {rs : List RV} {nt ns : Nat} {leak : Bool} {args : List AV} {r : AV} (h : fnRun es ss n ac rs nt ns leak args = some r) : Run (ctxE es ss) ac rs nt ns args r ∧ (leak = false → Fr r) := by
  have fin : ∀ {e : Exit} {s : St}, run es ss n ac (st0 nt ns args) = some (e, s) → (e = .ret ∨ e = .normal) → (match s.rvs rs with
      | some xs => match cvt s true true 12 (resAV xs) with
        | some r => if leak || frb 12 r then some r else none
        | none => none
      | none => none) = some r → Run (ctxE es ss) ac rs nt ns args r ∧ (leak = false → Fr r) := by
    intro e s h1 he h
    split at h
    · rename_i xs hx
      split at h
      · rename_i r' hr
        split at h
        · rename_i hl
          injection h with h; subst h
          refine ⟨⟨e, s, xs, (run_ex n _ _ _ _ h1).1, he, hx, cvt_cv 12 _ _ hr⟩, fun hlk => ?_⟩
          rw [hlk, Bool.false_or] at hl
          exact frb_fr 12 _ hl
        · cases h
      · cases h
    · cases h
  unfold fnRun at h
  split at h
  · rename_i e s h1
    split at h
    · exact fin h1 (.inl rfl) h
    · exact fin h1 (.inr rfl) h
    · cases h
  · cases h
/-- A contract says it of a function of es. -/
theorem Fk.ofR {P : Program} {f : Nat} {l : Bool} {R : List AV → AV → Prop} (h : Fk P ⟨f, l, R⟩) {F : List AV → Option AV} (hF : ∀ a r, F a = some r → R a r) : Fk P (FE.ent ⟨f, l, F⟩) :=
  ⟨fun args r hR => h.con args r (hF _ _ hR), h.ent⟩
theorem Fsp.ofR {P : Program} {f : Nat} {R : Nat → St → List AV → AV → List (Option Blk) → Prop} (h : Fsp P ⟨f, R⟩) {G : St → List AV → Option (AV × List (Option Blk))} (hG : ∀ i st a r M, G st a = some (r, M) → R i st a r M) : Fsp P (SE.spe ⟨f, G⟩) :=
  ⟨fun i st xs r M hR => h.con i st xs r M (hG _ _ _ _ _ hR), h.ent⟩
end Go.Proofs.YtbpajecjaoefaaaGreat.V

/- The sort of Factors: orders with a Bool. -/






namespace Go.Proofs.YtbpajecjaoefaaaGreat.V

open Go Go.RowKit Go.Sort Go.Proofs.Tryz

abbrev FA (p : Int × Bool) : List AV := [eN .i64 p.1, eB p.2]
instance : CL FA 2 := ⟨fun _ => rfl⟩
def facLt (a b : Int × Bool) : Bool := if a.1 = b.1 then !a.2 && b.2 else decide (a.1 < b.1)
theorem swo_facLt : SWO facLt where
  irrefl x := by simp [facLt]
  trans x y z h1 h2 := by
    obtain ⟨a, p⟩ := x; obtain ⟨b, q⟩ := y; obtain ⟨c, r⟩ := z
    simp only [facLt] at *
    by_cases e1 : a = b
    · subst e1; by_cases e2 : a = c
      · subst e2; simp at *; exact ⟨h1.1, h2.2⟩
      · simp [e2] at *; exact h2
    · rw [if_neg e1] at h1
      by_cases e2 : b = c
      · subst e2; rw [if_neg e1]; exact h1
      · rw [if_neg e2] at h2; simp only [decide_eq_true_eq] at h1 h2
        rw [if_neg (by omega)]; simp only [decide_eq_true_eq]; omega
  ntrans x y z h1 h2 := by
    obtain ⟨a, p⟩ := x; obtain ⟨b, q⟩ := y; obtain ⟨c, r⟩ := z
    simp only [facLt] at *
    by_cases e1 : a = b
    · subst e1; by_cases e2 : a = c
      · subst e2; simp at *; cases p <;> cases q <;> cases r <;> simp_all
      · simp [e2] at *; exact h2
    · rw [if_neg e1] at h1
      by_cases e2 : b = c
      · subst e2; rw [if_neg e1]; exact h1
      · rw [if_neg e2] at h2; simp only [decide_eq_false_iff_not] at h1 h2
        rw [if_neg (by omega)]; simp only [decide_eq_false_iff_not]; omega
theorem facLt_conn {x y : Int × Bool} (h1 : facLt x y = false) (h2 : facLt y x = false) : x = y := by
  obtain ⟨a, p⟩ := x; obtain ⟨b, q⟩ := y
  simp only [facLt] at *
  by_cases e : a = b
  · subst e; simp at *; cases p <;> cases q <;> simp_all
  · rw [if_neg e] at h1; rw [if_neg (fun h => e h.symm)] at h2
    simp only [decide_eq_false_iff_not] at h1 h2; omega
/-- The closure of Factors. -/
def R_facAt (args : List AV) (r : AV) : Prop := ∃ (l : List (Int × Bool)) (i j : Nat), i < l.length ∧ j < l.length ∧ args = [eN .i64 i, eN .i64 j, .fptr [eL false 2 FA l]] ∧ r = eB (facLt (gt l i) (gt l j))
theorem fq_facAt : Fq prog ⟨72, false, R_facAt⟩ := C.group.Factors_1.fq (es := []) trivial (by kernel_rfl) <| by
  rintro _ _ ⟨l, i, j, hi, hj, rfl, rfl⟩
  refine ⟨Run.of C.group.Factors_1.top.eq_1 (by simp) ?_, fun _ => .lit _⟩
  simp only [↓cnd_t, ↓cnd_f, ↓cnf_t, ↓cnf_f, VS, astep, Nat.reduceEqDiff, Nat.reduceAdd, Nat.reduceMul, Nat.reduceLT, Nat.reduceLeDiff, Nat.reduceBEq, Int.reduceLT, reduceCtorEq, enum, C.group.Factors_1.rs, FA, List.length_cons, List.length_nil, List.take_succ_cons, List.take_zero]
  refine ⟨by omega, by omega, fun h => ⟨by omega, by omega, ends_b (by decide) rfl (by simp [facLt, h])⟩, fun h => ⟨by omega, fun h2 => ⟨by omega, ends_b (by decide) rfl (by simp [facLt, h, h2])⟩, fun h2 => ends_b (by decide) rfl (by simp [facLt, h, h2])⟩⟩
abbrev encF (p : Int × Bool) : List Value := [.int .i64 p.1, .bool p.2]
theorem encF_len (l : List (Int × Bool)) : (l.flatMap encF).length = l.length * 2 := by
  induction l with
  | nil => rfl
  | cons x l ih => simp only [List.flatMap_cons, List.length_append, ih, List.length_cons]; simp only [encF, List.length_cons, List.length_nil]; omega
theorem Cs_fac {X : Claims} {s0 : Nat} {H : Heads} : ∀ {l : List (Int × Bool)} {xs : List Value}, Cs X s0 H (l.flatMap FA) xs → xs = l.flatMap encF
  | [], xs, h => List.eq_nil_of_length_eq_zero (by rw [h.len]; rfl)
  | z :: l, [], h => by have := h.len; simp at this
  | z :: l, [x], h => by have := h.len; simp at this
  | z :: l, x :: y :: xs, h => by
    have h0 := h.at_ 0 (eN .i64 z.1) x rfl rfl
    have h1 := h.at_ 1 (eB z.2) y rfl rfl
    cases h0; cases h1
    have : Cs X s0 H (l.flatMap FA) xs := ⟨by have := h.len; simp at this ⊢; omega, fun j y v hy hv => h.at_ (j + 2) y v (by simpa using hy) (by simpa using hv)⟩
    rw [Cs_fac this]; rfl
theorem Cs_of_fac {X : Claims} {s0 : Nat} {H : Heads} : ∀ (l : List (Int × Bool)), Cs X s0 H (l.flatMap FA) (l.flatMap encF)
  | [] => ⟨rfl, fun j y v hy => by simp at hy⟩
  | z :: l => Cs.cons (x := eN .i64 z.1) (v := .int .i64 z.1) (.lit _) (Cs.cons (x := eB z.2) (v := .bool z.2) (.lit _) (Cs_of_fac l))
theorem flatK_list (l : List (Int × Bool)) : flatK encF 2 l.toArray = (l.flatMap encF).toArray := by
  refine ext_get! (by simp only [size_flatK, List.size_toArray, encF_len]) fun t ht => ?_
  have ht' : t < l.length * 2 := by simpa using ht
  rw [get_flatK _ _ _ _ (by simpa using ht')]
  have key : ∀ (l : List (Int × Bool)) (t : Nat), t < l.length * 2 → (l.flatMap encF)[t]? = (encF (l.toArray[t / 2]!))[t % 2]? := by
    intro l
    induction l with
    | nil => intro t h; simp at h
    | cons z l ih =>
      intro t h
      match t with
      | 0 => simp
      | 1 => simp
      | t + 2 =>
        have := ih t (by simp at h; omega)
        have e1 : (t + 2) / 2 = t / 2 + 1 := by omega
        have e2 : (t + 2) % 2 = t % 2 := by omega
        rw [e1, e2]
        simp only [List.flatMap_cons]
        rw [List.getElem?_append_right (by simp)]
        simpa using this
  have h1 := key l t ht'
  have h2 : t % 2 < (encF (l.toArray[t / 2]!)).length := by simp; omega
  rw [List.getElem?_eq_getElem h2, List.getElem?_eq_some_iff] at h1
  obtain ⟨h3, h4⟩ := h1
  rw [getElem!_pos (encF (l.toArray[t / 2]!)) (t % 2) h2, ← h4, getElem!_pos (l.flatMap encF).toArray t (by simpa only [List.size_toArray] using h3), List.getElem_toArray]
theorem row_ofK {w : World} {e : TypeId} {g m k base cap n : Nat} {cur : Array Value} {os : Array Obj} {ts : List Value} (hl : ts.length = m * k) (hbase : base ≤ g) (hb : w.heap[g]? = some (.cells cur e (0, 0)))
    (h1 : m ≤ cap) (h2 : cap ≤ maxLen) (h3 : cur.size = cap * k) : (grow (putRow (id : Value → Value) (Sort.ahead w n) g 0 ts.toArray) os).ownsRow base e k (.slice (some ⟨g, 0, none⟩) m cap) m ts := by
  have hle : m * k ≤ cap * k := Nat.mul_le_mul_right k h1
  refine ⟨hl, .inr ⟨g, cap, putCells id 0 ts.toArray cur, rfl, hbase, XS.block_after _ hb, h1, h2, by simpa [putCells] using h3, ?_⟩⟩
  refine List.ext_getElem? fun j => ?_
  by_cases hj : j < ts.length
  · rw [List.getElem?_take_of_lt (by omega), XS.cell_after ts (by omega) j hj, List.getElem?_eq_getElem hj]
    rfl
  · rw [List.getElem?_eq_none (by rw [List.length_take]; omega), List.getElem?_eq_none (by omega)]
noncomputable def saT : TypeInfo := (prog.info? TSapi_Factor).get (by kernel_rfl)
noncomputable def saE : TypeInfo := (prog.info? Tapi_Factor).get (by kernel_rfl)
theorem saK (n : Nat) (h2 : 2 ≤ n) : Lib.swapperK n saE 25 = 9 := by
  have a : saE.hasPointers = false := by kernel_rfl
  have b : saE.bytes = 16 := by kernel_rfl
  have c : (n == 0) = false := by simp; omega
  have d : (n == 1) = false := by simp; omega
  simp [Lib.swapperK, a, b, c, d]
def S_sortFac (_ : Nat) (st : St) (xs : List AV) (r : AV) (M' : List (Option Blk)) : Prop :=
  ∃ (id idb : Nat) (g gb : Gen) (e tb : TypeId) (l : List (Int × Bool)), l.length < 2 ^ 61 ∧ xs = [.ifc TSapi_Factor (.own id g), .clo 72 [.ptr idb gb 0]] ∧ st.M[id]? = some (some (eR g e 2 FA l)) ∧ st.M[idb]? = some (some (.box gb tb [.own id g])) ∧
    r = .tup [] ∧ M' = st.M.set id (some (eR g e 2 FA (srtBy facLt l)))
theorem fac_len (l : List (Int × Bool)) : (l.flatMap FA).length = l.length * 2 := flat_len (f := FA) (k := 2) (fun _ => rfl) l
theorem fsp_sortFac : Fsp prog ⟨F_sort_Slice, S_sortFac⟩ := by
  refine ⟨?_, enters_some (by kernel_rfl : prog.funcs[F_sort_Slice]? = some f56) (by kernel_rfl) (by kernel_rfl)⟩
  rintro i st _ _ _ ⟨id, idb, g, gb, e, tb, l, hl, rfl, hM, hMb, rfl, rfl⟩ s0 S w0 D X H a w vals hwq hS _ hC
  obtain ⟨v, xs, g1, g2, g3, g4, g5⟩ := hS.blks id _ hM
  obtain ⟨bb, bv, k1, k2, k3, k4, k5⟩ := hS.blks idb _ hMb
  have hxs := Cs_fac g3
  subst hxs
  have hlen : vals.size = 2 := by have := hC.len; simpa using this
  have e0 : vals.toList[0]? = some vals[0] := by rw [Array.getElem?_toList]; exact Array.getElem?_eq_getElem (by omega)
  have e1 : vals.toList[1]? = some vals[1] := by rw [Array.getElem?_toList]; exact Array.getElem?_eq_getElem (by omega)
  have c0 := hC.at_ 0 _ _ rfl e0
  have c1' := hC.at_ 1 _ _ rfl e1
  have hv : vals = #[.iface TSapi_Factor v, .func (.func 72) #[] #[.pointer (some ⟨bb, 0, none⟩)]] := by
    have a0 : vals[0] = .iface TSapi_Factor v := by
      revert c0; generalize vals[0] = u; intro c0
      cases c0 with
      | ifc h => cases h with
        | own b1 _ => rw [g1] at b1; injection b1 with b1; subst b1; rfl
    have a1 : vals[1] = .func (.func 72) #[] #[.pointer (some ⟨bb, 0, none⟩)] := by
      revert c1'; generalize vals[1] = u; intro c1'
      cases c1' with
      | clo hv hC =>
        rename_i us
        have hu : us.size = 1 := by simpa using hv
        have h0 := hC 0 _ us[0] rfl (Array.getElem?_eq_getElem (by omega))
        have : us[0] = .pointer (some ⟨bb, 0, none⟩) := by
          revert h0; generalize us[0] = z; intro h0
          cases h0 with
          | ptr b1 b2 => rw [k1] at b1; injection b1 with b1; subst b1; simp only [hblk] at b2; injection b2 with b2; subst b2; rfl
        congr 1
        apply Array.ext
        · simp [hu]
        · intro i hi hi'
          have : i = 0 := by omega
          subst this; simpa using ‹us[0] = _›
    apply Array.ext
    · simp [hlen]
    · intro i hi hi'
      match i with
      | 0 => simpa using a0
      | 1 => simpa using a1
      | i + 2 => simp at hi'; omega
  subst hv
  have tiny : ∀ (p : Option Addr) (c : Nat), v = .slice p l.length c → l.length ≤ 1 → Calls prog F_sort_Slice #[.iface TSapi_Factor v, .func (.func 72) #[] #[.pointer (some ⟨bb, 0, none⟩)]] w fun e_1 w' => ∃ v X' H', e_1 = .returned v ∧ Sim s0 S w0 (fun j => D j ∨ j = i) X' H' { st with M := st.M.set id (some (eR g e 2 FA (srtBy facLt l))) } a w' ∧ C X' s0 H' (.tup []) v := by
    intro p c hv hl1
    have hsame : srtBy facLt l = l := by
      match l, hl1 with
      | [], _ => simp [srtBy]
      | [x], _ => simp [srtBy]
    rw [hv]
    have hK : Lib.swapperK l.length saE 25 = l.length + 1 := by
      rcases Nat.eq_zero_or_pos l.length with h | h
      · rw [h]; simp [Lib.swapperK]
      · rw [show l.length = 1 by omega]; simp [Lib.swapperK]
    refine (Any.sort_Slice_tiny Tryz.laysGg6 TSapi_Factor Tapi_Factor saT saE (by kernel_rfl) (by kernel_rfl) (by kernel_rfl) (by kernel_rfl) 25 (fun _ => by kernel_rfl) p l.length c hl1 (95 + l.length) (by
      rw [hK]
      rcases Nat.eq_zero_or_pos l.length with h | h
      · rw [h]; kernel_rfl
      · rw [show l.length = 1 by omega]; kernel_rfl) (.func 72) #[] _ w).mono ?_
    rintro e' w' ⟨rfl, os, rfl⟩
    have hself : st.M.set id (some (eR g e 2 FA (srtBy facLt l))) = st.M := by
      obtain ⟨hlt, hgt⟩ := List.getElem?_eq_some_iff.1 hM
      rw [hsame, ← hgt]; exact List.set_getElem_self hlt
    rw [hself]
    have hS2 : Sim s0 S w0 D (orX X fun _ _ => none) H st a (grow w os) := hS.called (Y := fun _ _ => none) (q_false hwq) ⟨rfl, rfl, rfl, by simp [grow], fun k hk => by
      simp only [grow]
      rw [Array.getElem?_append_left hk]⟩ (fun b o u hu => by cases hu)
    exact ⟨_, _, H, rfl, Sim.done (D' := fun j => D j ∨ j = i) hS2 fun _ => Or.inl, .tup rfl fun j x v hx => by simp at hx⟩
  rcases g2.2 with ⟨hv, hn⟩ | ⟨b, cap, cur, rfl, hbase, hb, a1, a2, a3, a4⟩
  · exact tiny none 0 (by rw [hv, hn]) (by omega)
  · by_cases h2 : 2 ≤ l.length
    · have ht : cur.toList.take (l.flatMap encF).length = (l.flatMap encF).map _root_.id := by rw [List.map_id, encF_len]; exact a4
      have hH0 := XS.holds_of (enc := (_root_.id : Value → Value)) (l.flatMap encF) hb ht
      have hH : HoldsK encF 2 w b 0 l.toArray := by unfold HoldsK; rw [flatK_list]; exact hH0
      have hbl := (Array.getElem?_eq_some_iff.1 hb).1
      have hbox : ∃ z, bv.toList = [z] ∧ z = .slice (some ⟨b, 0, none⟩) l.length cap := by
        have hl1 := k3.len
        match hz : bv.toList, hl1 with
        | [z], _ =>
          refine ⟨z, rfl, ?_⟩
          have h0 := k3.at_ 0 _ z rfl (by rw [hz]; rfl)
          cases h0 with
          | own b1 _ => rw [g1] at b1; injection b1 with b1; exact b1.symm
      obtain ⟨z, hz, rfl⟩ := hbox
      have hne : bb ≠ b := by
        intro e1
        have := hS.inj id idb _ _ _ _ b hM hMb g1 k1 rfl (by simp [hblk, e1])
        subst this
        rw [hM] at hMb; cases hMb
      have hbb := (Array.getElem?_eq_some_iff.1 k2).1
      have hcellb : w.cell? ⟨bb, 0, none⟩ = some (.slice (some ⟨b, 0, none⟩) l.length cap) := by
        have : bv[0]? = some (.slice (some ⟨b, 0, none⟩) l.length cap) := by rw [← Array.getElem?_toList, hz]; rfl
        simp [World.cell?, k2, this]
      have hless : LessReadsK prog 72 #[.pointer (some ⟨bb, 0, none⟩)] encF 2 facLt b 0 l.toArray.size w := by
        intro m os dk hs i j hi hj
        have hs' : dk.size = l.length := by simpa using hs
        have eW : sortWorldK encF 2 w b 0 m dk os = putRowK encF 2 (grow (Sort.ahead w m) os) b 0 dk := by unfold sortWorldK; rw [putRowK_grow encF 2 (Sort.ahead w m) _ b 0 _ hbl]
        have hHW : HoldsK encF 2 (sortWorldK encF 2 w b 0 m dk os) b 0 dk := holdsK_sortWorldK encF 2 w b 0 m l.toArray dk os hbl hH (by simpa using hs)
        have other : (sortWorldK encF 2 w b 0 m dk os).cell? ⟨bb, 0, none⟩ = w.cell? ⟨bb, 0, none⟩ := by
          rw [eW, cell?_putRowK_other _ _ _ b 0 dk _ hne, cell?_grow _ _ _ (by simpa [Sort.ahead] using hbb)]
          rfl
        have here : ∀ k, k < (dk.toList.flatMap encF).length → (sortWorldK encF 2 w b 0 m dk os).cell? ⟨b, 0 + k, none⟩ = (dk.toList.flatMap encF)[k]? := by
          intro k hk
          have h1 := hHW k (by rw [size_flatK]; rw [encF_len] at hk; simpa using hk)
          have h2 := flatK_list dk.toList
          rw [show dk.toList.toArray = dk by simp] at h2
          rw [h1.1, h2, getElem!_pos (dk.toList.flatMap encF).toArray k (by simpa using hk), List.getElem_toArray, List.getElem?_eq_getElem hk]; rfl
        generalize hW : sortWorldK encF 2 w b 0 m dk os = W at other here ⊢
        have hargs : Cs (allX W) W.heap.size H0 [eN .i64 i, eN .i64 j, .fptr [eL false 2 FA dk.toList]] (#[Value.int .i64 i, Value.int .i64 j] ++ #[Value.pointer (some ⟨bb, 0, none⟩)]).toList := by
          refine ⟨by simp, fun k x u hx hu => ?_⟩
          match k with
          | 0 => simp at hx hu; subst hx; subst hu; exact .lit _
          | 1 => simp at hx hu; subst hx; subst hu; exact .lit _
          | 2 =>
            simp at hx hu; subst hx; subst hu
            refine C.fptr (cs := [eL false 2 FA dk.toList]) (vs := [.slice (some ⟨b, 0, none⟩) l.length cap]) rfl (fun q u hu => ?_) fun q x u hx hu => ?_
            · match q with
              | 0 => simp at hu; subst hu; show W.cell? ⟨bb, 0 + 0, none⟩ = _; rw [other]; exact hcellb
              | q + 1 => simp at hu
            · match q with
              | 0 =>
                simp at hx hu; subst hx; subst hu
                rw [show l.length = dk.toList.length by simp [hs']]
                have hcs := Cs_of_fac (X := allX W) (s0 := W.heap.size) (H := H0) dk.toList
                refine .frz (vs := dk.toList.flatMap encF) ff (by simp; omega) (by rw [fac_len]) (by simp [hs']; omega) (by rw [encF_len, fac_len]) (fun q u hq => ?_) fun q x u hx hu => hcs.at_ q x u hx hu
                have hlt := (List.getElem?_eq_some_iff.1 hq).1
                show W.cell? ⟨b, 0 + q, none⟩ = _
                rw [here q hlt]; exact hq
              | q + 1 => simp at hx
          | k + 3 => simp at hx
        have hi' : i < dk.toList.length := by simp at hi; simp [hs', hi]
        have hj' : j < dk.toList.length := by simp at hj; simp [hs', hj]
        refine (fq_facAt.con _ _ ⟨dk.toList, i, j, hi', hj', rfl, rfl⟩ (allX W) W _ (fun b o v h => h) hargs).mono ?_
        rintro e' w' ⟨u, Y, rfl, _, hCu, _, hD⟩
        rw [gt_nat hi', gt_nat hj'] at hCu
        cases hCu
        refine ⟨?_, hD rfl⟩
        rw [getElem!_pos dk i (by simpa using hi'), getElem!_pos dk j (by simpa using hj')]
        simp
      have hcall := Any.sort_Slice_cells_sorted Tryz.laysGg6 TSapi_Factor Tapi_Factor saT saE (by kernel_rfl) (by kernel_rfl) (by kernel_rfl) (by kernel_rfl) 25 (fun _ => by kernel_rfl) encF 2 (fun _ => rfl) (by kernel_rfl) (fun _ => by kernel_rfl)
        (fun x v hv => by simp [encF] at hv; rcases hv with rfl | rfl <;> rfl) facLt swo_facLt 72 #[.pointer (some ⟨bb, 0, none⟩)] fq_facAt.ent b 0 cap l.toArray (by simpa using h2) (by simp; omega) 103 (by rw [saK _ (by simpa using h2)]; kernel_rfl) false
        (fun args W => run_callFunc_extern (by kernel_rfl : prog.funcs[103]? = some f103) (by kernel_rfl) (by kernel_rfl) (by kernel_rfl) (e := Extern.ReflectliteSwapper.swap false) (by kernel_rfl) args W) w hless hH hbl
      rw [show l.toArray.size = l.length by simp] at hcall
      refine hcall.mono ?_
      rintro e' w' ⟨rfl, d', n', os, hp, hso, rfl⟩
      have hd0 : d'.size = l.length := by have := hp.1; simpa using this
      have hperm : d'.toList.Perm l := by
        have := hp.2.2
        rw [show d'.extract 0 l.length = d' by rw [← hd0]; exact Array.extract_size, show l.toArray.extract 0 l.length = l.toArray by simp] at this
        simpa using this
      have hsrt : d'.toList = srtBy facLt l := by
        refine List.Perm.eq_of_pairwise (le := fun x y => (!facLt y x) = true) ?_ ?_ ?_ (hperm.trans (List.mergeSort_perm _ _).symm)
        · intro a b _ _ h1 h2
          simp only [Bool.not_eq_true'] at h1 h2
          exact facLt_conn h2 h1
        · rw [List.pairwise_iff_getElem]
          intro i j hi hj hij
          have hi' : i < d'.size := by simpa using hi
          have hj' : j < d'.size := by simpa using hj
          have := hso i j (Nat.zero_le _) hij (by omega)
          rw [getElem!_pos d' j hj', getElem!_pos d' i hi'] at this
          simpa using this
        · refine List.pairwise_mergeSort ?_ ?_ _
          · intro a b c h1 h2
            simp only [Bool.not_eq_true'] at h1 h2 ⊢
            exact swo_facLt.ntrans c b a h2 h1
          · intro a b
            cases h : facLt b a with
            | false => simp
            | true =>
              have : facLt a b = false := by
                cases h3 : facLt a b with
                | false => rfl
                | true => have := swo_facLt.trans _ _ _ h h3; rw [swo_facLt.irrefl] at this; cases this
              simp [this]
      have hts : flatK encF 2 d' = (d'.toList.flatMap encF).toArray := by
        have h2 := flatK_list d'.toList
        rwa [show d'.toList.toArray = d' by simp] at h2
      have hg := XS.others_after (enc := (_root_.id : Value → Value)) (w := w) (g := b) (n := n') (os := os) (flatK encF 2 d')
      have hr := row_ofK (n := n') (os := os) (ts := d'.toList.flatMap encF) (m := l.length) (k := 2) (by rw [encF_len]; simp [hd0]) hbase hb a1 a2 a3
      rw [← hts, hsrt] at hr
      rw [hsrt] at hts
      refine ⟨_, X, H, rfl, Sim.done (D' := fun j => D j ∨ j = i) (hS.same (B' := eR g e 2 FA (srtBy facLt l)) hM g1 (q_false hwq) hg rfl ?_) fun _ => Or.inl, .tup rfl fun j x v hx => by simp at hx⟩
      exact ⟨_, _, g1, by rw [srtBy_len]; exact hr, Cs_of_fac _, by omega, fun b' hb' => g5 b' hb'⟩
    · exact tiny _ _ rfl (by omega)
end Go.Proofs.YtbpajecjaoefaaaGreat.V

/- What is run: functions of the library of contracts, and awake. -/






namespace Go.Proofs.YtbpajecjaoefaaaGreat.V

open Go Go.RowKit Go.Sort Go.Proofs.Tryz

/-- An insertion sort. -/
def insB {β : Type} (lt : β → β → Bool) (x : β) : List β → List β
  | [] => [x]
  | y :: l => if lt x y then x :: y :: l else y :: insB lt x l
def isb {β : Type} (lt : β → β → Bool) : List β → List β
  | [] => []
  | x :: l => insB lt x (isb lt l)
theorem insB_perm {β : Type} (lt : β → β → Bool) (x : β) : ∀ l, (insB lt x l).Perm (x :: l)
  | [] => .refl _
  | y :: l => by
    simp only [insB]
    split
    · exact .refl _
    · exact ((insB_perm lt x l).cons y).trans (.swap _ _ _)
theorem isb_perm {β : Type} (lt : β → β → Bool) : ∀ l, (isb lt l).Perm l
  | [] => .refl _
  | x :: l => (insB_perm lt x _).trans ((isb_perm lt l).cons x)
theorem swo_asymm {β : Type} {lt : β → β → Bool} (h : SWO lt) {x y : β} (k : lt x y = true) : lt y x = false := by
  cases h3 : lt y x with
  | false => rfl
  | true => have := h.trans _ _ _ k h3; rw [h.irrefl] at this; cases this
theorem insB_sorted {β : Type} {lt : β → β → Bool} (h : SWO lt) (x : β) : ∀ {l : List β}, l.Pairwise (fun a b => lt b a = false) → (insB lt x l).Pairwise (fun a b => lt b a = false)
  | [], _ => by simp [insB]
  | y :: l, hp => by
    rw [List.pairwise_cons] at hp
    simp only [insB]
    split
    · rename_i hxy
      rw [List.pairwise_cons, List.pairwise_cons]
      refine ⟨fun z hz => ?_, hp⟩
      rcases List.mem_cons.1 hz with rfl | hz
      · exact swo_asymm h hxy
      · cases hzx : lt z x with
        | false => rfl
        | true => have := h.trans _ _ _ hzx hxy; rw [hp.1 z hz] at this; cases this
    · rename_i hxy
      rw [List.pairwise_cons]
      refine ⟨fun z hz => ?_, insB_sorted h x hp.2⟩
      have hz := (insB_perm lt x l).mem_iff.1 hz
      rcases List.mem_cons.1 hz with rfl | hz
      · simpa using hxy
      · exact hp.1 z hz
theorem isb_sorted {β : Type} {lt : β → β → Bool} (h : SWO lt) : ∀ l : List β, (isb lt l).Pairwise (fun a b => lt b a = false)
  | [] => .nil
  | x :: l => insB_sorted h x (isb_sorted h l)
theorem srtBy_sorted {β : Type} {lt : β → β → Bool} (h : SWO lt) (l : List β) : (srtBy lt l).Pairwise (fun a b => lt b a = false) := by
  have := List.pairwise_mergeSort (le := fun x y => !lt y x) (fun a b c h1 h2 => by
    simp only [Bool.not_eq_true'] at h1 h2 ⊢
    exact h.ntrans c b a h2 h1) (fun a b => by
    cases h1 : lt b a with
    | false => simp
    | true => simp [swo_asymm h h1]) l
  exact this.imp (by simp)
theorem sorted_unique {β : Type} {lt : β → β → Bool} (hc : ∀ x y, lt x y = false → lt y x = false → x = y) {l m : List β} (hl : l.Pairwise (fun a b => lt b a = false)) (hm : m.Pairwise (fun a b => lt b a = false)) (hp : l.Perm m) : l = m :=
  List.Perm.eq_of_pairwise (le := fun x y => lt y x = false) (fun a b _ _ h1 h2 => hc a b h2 h1) hl hm hp
theorem isb_eq {β : Type} {lt : β → β → Bool} (h : SWO lt) (hc : ∀ x y, lt x y = false → lt y x = false → x = y) (l : List β) : isb lt l = srtBy lt l :=
  sorted_unique hc (isb_sorted h l) (srtBy_sorted h l) ((isb_perm lt l).trans (List.mergeSort_perm _ _).symm)
def ltI (x y : Int) : Bool := decide (x < y)
theorem swo_ltI : SWO ltI where
  irrefl x := by simp [ltI]
  trans x y z h1 h2 := by simp only [ltI, decide_eq_true_eq] at *; omega
  ntrans x y z h1 h2 := by simp only [ltI, decide_eq_false_iff_not] at *; omega
theorem srt_eq (l : List Int) : isb ltI l = srt l := by
  rw [isb_eq swo_ltI (fun x y h1 h2 => by simp only [ltI, decide_eq_false_iff_not] at *; omega)]
  unfold srtBy srt
  congr 1
  funext x y
  simp only [ltI]
  rw [Bool.eq_iff_iff]; simp
/-- What a value says, if it says a list. -/
def unI : AV → Option Int
  | .lit (.int .i64 n) => some n
  | _ => none
def unB : AV → Option Bool
  | .lit (.bool b) => some b
  | _ => none
def unL {α : Type} (f : AV → Option α) : List AV → Option (List α)
  | [] => some []
  | x :: xs => match f x, unL f xs with
    | some y, some ys => some (y :: ys)
    | _, _ => none
def unS {α : Type} (lab : Bool) (f : AV → Option α) : AV → Option (List α)
  | .frz lab' 1 n cs => if lab' = lab ∧ n = cs.length then unL f cs else none
  | _ => none
theorem unI_some {x : AV} {n : Int} (h : unI x = some n) : x = eN .i64 n := by
  unfold unI at h
  split at h
  · injection h with h; subst h; rfl
  · cases h
theorem unL_some {α : Type} {f : AV → Option α} {e : α → AV} (hf : ∀ x a, f x = some a → x = e a) : ∀ {cs : List AV} {l : List α}, unL f cs = some l → cs = l.flatMap (c1 e)
  | [], l, h => by injection h with h; subst h; rfl
  | x :: xs, l, h => by
    simp only [unL] at h
    split at h
    · rename_i y ys h1 h2
      injection h with h; subst h
      rw [hf _ _ h1, unL_some hf h2]; rfl
    · cases h
theorem unS_some {α : Type} {lab : Bool} {f : AV → Option α} {e : α → AV} (hf : ∀ x a, f x = some a → x = e a) {x : AV} {l : List α} (h : unS lab f x = some l) : x = eL lab 1 (c1 e) l := by
  unfold unS at h
  split at h
  · rename_i lab' n cs
    split at h
    · rename_i hk; obtain ⟨rfl, rfl⟩ := hk
      rw [unL_some hf h, flat_len (k := 1) (fun _ => rfl), Nat.mul_one]
    · cases h
  · cases h
abbrev unLI : AV → Option (List Int) := unS false unI
abbrev unLLI : AV → Option (List (List Int)) := unS false unLI
theorem unLI_some {x : AV} {l : List Int} (h : unLI x = some l) : x = LI false l := unS_some (e := eN .i64) (fun _ _ => unI_some) h
theorem unLLI_some {x : AV} {l : List (List Int)} (h : unLLI x = some l) : x = LLI false false l := unS_some (e := LI false) (fun _ _ => unLI_some) h
instance (l : List (List Int)) : Decidable (small l) := by unfold small; exact inferInstance
def fe_Validate : FE := ⟨F_mult_Validate, false, fun a => match a with | [x] => (unLLI x).bind fun t => if t.length < 2 ^ 62 then some (eN .i64 (val t)) else none | _ => none⟩
theorem ok_Validate : Fk prog fe_Validate.ent := fk_mValidate.ofR fun a r h => by
  split at h
  · rename_i x
    cases e : unLLI x with
    | none => rw [e] at h; cases h
    | some t =>
      rw [e] at h; simp only [Option.bind_some] at h
      split at h
      · injection h with h; exact ⟨t, by assumption, by rw [unLLI_some e], h.symm⟩
      · cases h
  · cases h
def fe_perms : FE := ⟨F_group_permutations, false, fun a => match a with | [x] => (unLLI x).bind fun t => if small t then some (eB (prms t)) else none | _ => none⟩
theorem ok_perms : Fk prog fe_perms.ent := fk_prms.ofR fun a r h => by
  split at h
  · rename_i x
    cases e : unLLI x with
    | none => rw [e] at h; cases h
    | some t =>
      rw [e] at h; simp only [Option.bind_some] at h
      split at h
      · injection h with h; exact ⟨t, by assumption, by rw [unLLI_some e], h.symm⟩
      · cases h
  · cases h
def genF' (perms : List (List Int)) : List (List Int) × Int :=
  if perms.length = 0 then ([], 1) else if prms perms then
    (match genGo perms 2000 0 [iota (gt perms 0).length] with | some l => (isb lexL l, 0) | none => ([], 3))
  else ([], 4)
theorem genF'_eq (perms : List (List Int)) : genF' perms = genF perms := by
  unfold genF' genF
  split
  · rfl
  · split
    · cases genGo perms 2000 0 [iota (gt perms 0).length] with
      | some l => simp only [isb_eq swo_lexL fun x y => lexL_conn]
      | none => rfl
    · rfl
def fe_Gen : FE := ⟨F_group_Generate, false, fun a => match a with | [x] => (unLLI x).bind fun t => if small t then some (.tup [LLI true true (genF' t).1, eN .i64 (genF' t).2]) else none | _ => none⟩
theorem ok_Gen : Fk prog fe_Gen.ent := fk_Gen.ofR fun a r h => by
  split at h
  · rename_i x
    cases e : unLLI x with
    | none => rw [e] at h; cases h
    | some t =>
      rw [e] at h; simp only [Option.bind_some] at h
      split at h
      · injection h with h; exact ⟨t, by assumption, by rw [unLLI_some e], by rw [← genF'_eq]; exact h.symm⟩
      · cases h
  · cases h
def fe_key : FE := ⟨F_group_key, false, fun a => match a with | [x] => (unLI x).bind fun l => if l.length < 2 ^ 46 then some (eS (pushAll (keyL l))) else none | _ => none⟩
theorem ok_key : Fk prog fe_key.ent := fk_key.ofR fun a r h => by
  split at h
  · rename_i x
    cases e : unLI x with
    | none => rw [e] at h; cases h
    | some t =>
      rw [e] at h; simp only [Option.bind_some] at h
      split at h
      · injection h with h; exact ⟨t, by assumption, by rw [unLI_some e], h.symm⟩
      · cases h
  · cases h
def fe_comp : FE := ⟨F_trans_Compose, false, fun a => match a with
  | [x, y] => match unLI x, unLI y with
    | some f, some h => if vt f = true ∧ vt h = true ∧ f.length = h.length then some (LI true (comp' f h)) else none
    | _, _ => none
  | _ => none⟩
theorem ok_comp : Fk prog fe_comp.ent := fk_tCompose.ofR fun a r h => by
  split at h
  · rename_i x y
    split at h
    · rename_i f g e1 e2
      split at h
      · rename_i hk; injection h with h
        exact ⟨f, g, hk.1, hk.2.1, hk.2.2, by rw [unLI_some e1, unLI_some e2], h.symm⟩
      · cases h
    · cases h
  · cases h
def fe_iota : FE := ⟨F_partition_Discrete, false, fun a => match a with
  | [x] => (unI x).bind fun n => if 0 ≤ n ∧ n.toNat ≤ 4096 then some (LI true (iota n.toNat)) else none
  | _ => none⟩
theorem ok_iota : Fk prog fe_iota.ent := fk_pDiscrete.ofR fun a r h => by
  split at h
  · rename_i x
    cases e : unI x with
    | none => rw [e] at h; cases h
    | some n =>
      rw [e] at h; simp only [Option.bind_some] at h
      split at h
      · rename_i hk; injection h with h
        refine ⟨n.toNat, hk.2, ?_, h.symm⟩
        rw [unI_some e, Int.toNat_of_nonneg hk.1]
      · cases h
  · cases h
def se_ints : SE := ⟨F_sort_Ints, fun st xs => match xs with
  | [.own id g] => match st.M[id]? with
    | some (some (.row g' e 1 n cs)) => match unL unI cs with
      | some l => if g' = g ∧ n = l.length ∧ l.length < 2 ^ 61 then some (.tup [], st.M.set id (some (eR g e 1 (c1 (eN .i64)) (isb ltI l)))) else none
      | none => none
    | _ => none
  | _ => none⟩
theorem ok_ints : Fsp prog se_ints.spe := fsp_sortInts.ofR fun _ st xs r M h => by
  split at h
  · rename_i id g
    split at h
    · rename_i g' e n cs hM
      split at h
      · rename_i l hl
        split at h
        · rename_i hk; obtain ⟨rfl, rfl, hk⟩ := hk
          injection h with h; injection h with h1 h2
          refine ⟨id, g', e, l, hk, rfl, ?_, h1.symm, ?_⟩
          · rw [hM, unL_some (e := eN .i64) (fun _ _ => unI_some) hl]
          · rw [← srt_eq]; exact h2.symm
        · cases h
      · cases h
    · cases h
  · cases h
def unF : List AV → Option (List (Int × Bool))
  | [] => some []
  | [_] => none
  | x :: y :: xs => match unI x, unB y, unF xs with
    | some n, some b, some l => some ((n, b) :: l)
    | _, _, _ => none
theorem unB_some {x : AV} {n : Bool} (h : unB x = some n) : x = eB n := by
  unfold unB at h
  split at h
  · injection h with h; subst h; rfl
  · cases h
theorem unF_some : ∀ {cs : List AV} {l : List (Int × Bool)}, unF cs = some l → cs = l.flatMap FA
  | [], l, h => by injection h with h; subst h; rfl
  | [_], l, h => by cases h
  | x :: y :: xs, l, h => by
    simp only [unF] at h
    split at h
    · rename_i n b l' h1 h2 h3
      injection h with h; subst h
      rw [unI_some h1, unB_some h2, unF_some h3]; rfl
    · cases h
def se_fac : SE := ⟨F_sort_Slice, fun st xs => match xs with
  | [.ifc t (.own id g), .clo f [.ptr idb gb 0]] => match st.M[id]?, st.M[idb]? with
    | some (some (.row g' e 2 n cs)), some (some (.box gb' tb [.own id' g2])) => match unF cs with
      | some l => if t = TSapi_Factor ∧ f = 72 ∧ g' = g ∧ gb' = gb ∧ id' = id ∧ g2 = g ∧ n = l.length ∧ l.length < 2 ^ 61 then some (.tup [], st.M.set id (some (eR g e 2 FA (isb facLt l)))) else none
      | none => none
    | _, _ => none
  | _ => none⟩
theorem ok_fac : Fsp prog se_fac.spe := fsp_sortFac.ofR fun _ st xs r M h => by
  split at h
  · rename_i t id g f idb gb
    split at h
    · rename_i g' e n cs gb' tb id' g2 hM hMb
      split at h
      · rename_i l hl
        split at h
        · rename_i hk; obtain ⟨rfl, rfl, rfl, rfl, rfl, rfl, rfl, hk⟩ := hk
          injection h with h; injection h with h1 h2
          refine ⟨_, idb, _, gb', e, tb, l, hk, rfl, ?_, hMb, h1.symm, ?_⟩
          · rw [hM, unF_some hl]
          · rw [← isb_eq swo_facLt fun x y => facLt_conn]; exact h2.symm
        · cases h
      · cases h
    · cases h
  · cases h
end Go.Proofs.YtbpajecjaoefaaaGreat.V

/- The subgroup that elements generate, in plain words. -/





namespace Go.Proofs.YtbpajecjaoefaaaGreat.V

open Go

def addNew (l : List Int) (y : Int) : List Int := if y ∈ l then l else l ++ [y]
theorem addNew_mem {l : List Int} {y z : Int} : z ∈ addNew l y ↔ z ∈ l ∨ z = y := by
  unfold addNew
  split
  · rename_i h
    exact ⟨.inl, fun h2 => h2.elim id (fun e => by subst e; exact h)⟩
  · simp
theorem addNew_nodup {l : List Int} {y : Int} (h : l.Nodup) : (addNew l y).Nodup := by
  unfold addNew
  split
  · exact h
  · rename_i hy
    rw [List.nodup_append]
    exact ⟨h, by simp, fun a ha b hb e => by simp at hb; subst hb; subst e; exact hy ha⟩
theorem addNew_pre {l : List Int} {y : Int} : ∃ m, addNew l y = l ++ m := by
  unfold addNew
  split
  · exact ⟨[], by simp⟩
  · exact ⟨[y], rfl⟩
/-- All of a list's values, appended where they are new. -/
def addsN {α : Type} (f : α → Int) (xs : List α) (l : List Int) : List Int := xs.foldl (fun l x => addNew l (f x)) l
theorem addsN_snoc {α : Type} (f : α → Int) (xs : List α) (x : α) (l : List Int) : addsN f (xs ++ [x]) l = addNew (addsN f xs l) (f x) := by simp [addsN]
theorem addsN_mem {α : Type} {f : α → Int} : ∀ {xs : List α} {l : List Int} {z : Int}, z ∈ addsN f xs l ↔ z ∈ l ∨ ∃ x ∈ xs, f x = z
  | [], l, z => by simp [addsN]
  | x :: xs, l, z => by
    have : addsN f (x :: xs) l = addsN f xs (addNew l (f x)) := rfl
    rw [this, addsN_mem, addNew_mem]
    constructor
    · rintro ((h | h) | ⟨y, hy, e⟩)
      · exact .inl h
      · exact .inr ⟨x, List.mem_cons_self .., h.symm⟩
      · exact .inr ⟨y, List.mem_cons_of_mem _ hy, e⟩
    · rintro (h | ⟨y, hy, e⟩)
      · exact .inl (.inl h)
      · rcases List.mem_cons.1 hy with rfl | hy
        · exact .inl (.inr e.symm)
        · exact .inr ⟨y, hy, e⟩
theorem addsN_nodup {α : Type} {f : α → Int} : ∀ {xs : List α} {l : List Int}, l.Nodup → (addsN f xs l).Nodup
  | [], l, h => h
  | x :: xs, l, h => addsN_nodup (xs := xs) (addNew_nodup h)
theorem addsN_pre {α : Type} {f : α → Int} : ∀ {xs : List α} {l : List Int}, ∃ m, addsN f xs l = l ++ m
  | [], l => ⟨[], by simp [addsN]⟩
  | x :: xs, l => by
    obtain ⟨m, hm⟩ := addNew_pre (l := l) (y := f x)
    obtain ⟨m', hm'⟩ := addsN_pre (f := f) (xs := xs) (l := addNew l (f x))
    exact ⟨m ++ m', by show addsN f xs (addNew l (f x)) = _; rw [hm', hm, List.append_assoc]⟩
/-- Different numbers below n are at most n. -/
theorem nodup_le {l : List Int} {n : Nat} (h : l.Nodup) (hr : ∀ x ∈ l, 0 ≤ x ∧ x < n) : l.length ≤ n := by
  refine Classical.byContradiction fun hn => ?_
  obtain ⟨i, j, h1, h2, h3⟩ := pigeon n (fun i => (gt l i).toNat) (fun i hi => by
    have := hr (gt l i) (by rw [gt_nat (by omega)]; exact List.getElem_mem _); omega)
  rw [gt_nat (by omega), gt_nat (by omega)] at h3
  have a := hr l[i] (List.getElem_mem _)
  have b := hr l[j] (List.getElem_mem _)
  have e : l[i] = l[j] := by omega
  exact (List.pairwise_iff_getElem.1 h) i j (by omega) (by omega) h1 e
/-- The numbers below n of a kind, ascending. -/
noncomputable def memP (P : Int → Prop) (n : Nat) : List Int := by
  classical exact ((List.range n).filter fun i => decide (P (i : Nat))).map fun (i : Nat) => (i : Int)
theorem memP_mem {P : Int → Prop} {n : Nat} {x : Int} : x ∈ memP P n ↔ (0 ≤ x ∧ x < n) ∧ P x := by
  unfold memP
  simp only [List.mem_map, List.mem_filter, List.mem_range, decide_eq_true_eq]
  constructor
  · rintro ⟨i, ⟨h1, h2⟩, rfl⟩; exact ⟨⟨by omega, by omega⟩, h2⟩
  · rintro ⟨⟨h1, h2⟩, h3⟩
    exact ⟨x.toNat, ⟨by omega, by rw [Int.toNat_of_nonneg h1]; exact h3⟩, Int.toNat_of_nonneg h1⟩
theorem asc_map_range {p : Nat → Bool} (n : Nat) : (((List.range n).filter p).map fun (i : Nat) => (i : Int)).Pairwise (· < ·) := by
  rw [List.pairwise_map]
  exact (List.pairwise_lt_range (n := n)).filter _ |>.imp (by intro a b h; omega)
theorem memP_asc (P : Int → Prop) (n : Nat) : (memP P n).Pairwise (· < ·) := by unfold memP; exact asc_map_range n
theorem mems_asc (s : List Bool) (n : Nat) : (mems s n).Pairwise (· < ·) := asc_map_range n
theorem asc_unique : ∀ {l m : List Int}, l.Pairwise (· < ·) → m.Pairwise (· < ·) → (∀ x, x ∈ l ↔ x ∈ m) → l = m
  | [], [], _, _, _ => rfl
  | [], y :: m, _, _, h => by have := (h y).2 (List.mem_cons_self ..); cases this
  | x :: l, [], _, _, h => by have := (h x).1 (List.mem_cons_self ..); cases this
  | x :: l, y :: m, hl, hm, h => by
    rw [List.pairwise_cons] at hl hm
    have e : x = y := by
      rcases List.mem_cons.1 ((h x).1 (List.mem_cons_self ..)) with e | h1
      · exact e
      · rcases List.mem_cons.1 ((h y).2 (List.mem_cons_self ..)) with e | h2
        · exact e.symm
        · have := hl.1 y h2; have := hm.1 x h1; omega
    subst e
    rw [asc_unique hl.2 hm.2 fun z => ⟨fun hz => ?_, fun hz => ?_⟩]
    · rcases List.mem_cons.1 ((h z).1 (List.mem_cons_of_mem _ hz)) with e | h1
      · subst e; have := hl.1 z hz; omega
      · exact h1
    · rcases List.mem_cons.1 ((h z).2 (List.mem_cons_of_mem _ hz)) with e | h1
      · subst e; have := hm.1 z hz; omega
      · exact h1
theorem srt_mem {l : List Int} {x : Int} : x ∈ srt l ↔ x ∈ l := by unfold srt; exact (List.mergeSort_perm _ _).mem_iff
theorem srt_asc {l : List Int} (h : l.Nodup) : (srt l).Pairwise (· < ·) := by
  rw [← srt_eq]
  have h1 := isb_sorted swo_ltI l
  have h2 : (isb ltI l).Nodup := (isb_perm ltI l).nodup_iff.2 h
  have h3 := h1.and h2
  exact h3.imp (by intro a b h; simp only [ltI, decide_eq_false_iff_not, ne_eq] at h; omega)
theorem srt_memP {l : List Int} {P : Int → Prop} {n : Nat} (h : l.Nodup) (hm : ∀ x, x ∈ l ↔ (0 ≤ x ∧ x < n) ∧ P x) : srt l = memP P n :=
  asc_unique (srt_asc h) (memP_asc P n) fun x => by rw [srt_mem, hm, memP_mem]
theorem inSet_gt {l : List Int} {n : Nat} {x : Int} (h0 : 0 ≤ x) (h1 : x < n) : gt (inSet l n) x = decide (x ∈ l) := by
  unfold gt inSet
  rw [List.getD_eq_getElem?_getD, List.getElem?_map, List.getElem?_range (by omega)]
  simp [Int.toNat_of_nonneg h0]
theorem mems_inSet {l : List Int} {n : Nat} {P : Int → Prop} (hm : ∀ x : Int, 0 ≤ x → x < n → (x ∈ l ↔ P x)) : mems (inSet l n) n = memP P n := by
  refine asc_unique (mems_asc _ _) (memP_asc P n) fun x => ?_
  rw [memP_mem]
  simp only [mems, List.mem_map, List.mem_filter, List.mem_range]
  constructor
  · rintro ⟨i, ⟨h1, h2⟩, rfl⟩
    refine ⟨⟨by omega, by omega⟩, (hm _ (by omega) (by omega)).1 ?_⟩
    simpa [inSet, h1] using h2
  · rintro ⟨⟨h1, h2⟩, h3⟩
    refine ⟨x.toNat, ⟨by omega, ?_⟩, Int.toNat_of_nonneg h1⟩
    have := (hm x h1 h2).2 h3
    simp only [inSet, List.getD_eq_getElem?_getD]
    rw [List.getElem?_map, List.getElem?_range (by omega)]
    simp [Int.toNat_of_nonneg h1, this]
/-- What elements generate: words of them. -/
inductive GenP (t : List (List Int)) (e : Int) (S : Int → Prop) : Int → Prop
  | one : GenP t e S e
  | mul {x y : Int} (h : GenP t e S x) (hy : S y) : GenP t e S (pd t x y)
/-- What a set is closed to. -/
inductive RGen (t : List (List Int)) (S : Int → Prop) : Int → Prop
  | base {x : Int} (h : S x) : RGen t S x
  | mul {x y : Int} (h : RGen t S x) (h' : RGen t S y) : RGen t S (pd t x y)
section

variable {t : List (List Int)} {e : Int} (G : Grp t e) {S : Int → Prop} (hS : ∀ x, S x → inE t x)
include G hS
theorem genP_inE {x : Int} (h : GenP t e S x) : inE t x := by
  induction h with
  | one => exact G.ee
  | mul h hy ih => exact G.p ih (hS _ hy)
theorem genP_pd {x y : Int} (hx : GenP t e S x) (hy : GenP t e S y) : GenP t e S (pd t x y) := by
  induction hy with
  | one => rw [G.r x (genP_inE G hS hx)]; exact hx
  | mul h hs ih =>
    rw [← G.a _ _ _ (genP_inE G hS hx) (genP_inE G hS h) (hS _ hs)]
    exact .mul ih hs
theorem RGen_iff (he : S e) {x : Int} : RGen t S x ↔ GenP t e S x := by
  constructor
  · intro h
    induction h with
    | base h => have := GenP.mul (t := t) (e := e) (S := S) .one h; rwa [G.l _ (hS _ h)] at this
    | mul _ _ ih ih' => exact genP_pd G hS ih ih'
  · intro h
    induction h with
    | one => exact .base he
    | mul _ hy ih => exact .mul ih (.base hy)
end

theorem genP_mono {t : List (List Int)} {e : Int} {S S' : Int → Prop} (h : ∀ x, S x → S' x) {x : Int} (hx : GenP t e S x) : GenP t e S' x := by
  induction hx with
  | one => exact .one
  | mul _ hy ih => exact .mul ih (h _ hy)
/-- The program's search. -/
def bfs (t : List (List Int)) (gens : List Int) : Nat → Nat → List Int → List Int
  | 0, _, l => l
  | k + 1, i, l => if i < l.length then bfs t gens k (i + 1) (addsN (pd t (gt l i)) gens l) else l
theorem bfs_ok {t : List (List Int)} {e : Int} (G : Grp t e) {gens : List Int} (hg : ∀ x ∈ gens, inE t x) : ∀ (k i : Nat) (l : List Int), t.length ≤ i + k → l.Nodup → (∀ x ∈ l, inE t x) → (∀ x ∈ l, GenP t e (· ∈ gens) x) → e ∈ l → (∀ j (h : j < l.length), j < i → ∀ s ∈ gens, pd t l[j] s ∈ l) →
    (bfs t gens k i l).Nodup ∧ ∀ x, x ∈ bfs t gens k i l ↔ inE t x ∧ GenP t e (· ∈ gens) x := by
  have fin : ∀ {i : Nat} {l : List Int}, l.length ≤ i → l.Nodup → (∀ x ∈ l, inE t x) → (∀ x ∈ l, GenP t e (· ∈ gens) x) → e ∈ l → (∀ j (h : j < l.length), j < i → ∀ s ∈ gens, pd t l[j] s ∈ l) → l.Nodup ∧ ∀ x, x ∈ l ↔ inE t x ∧ GenP t e (· ∈ gens) x := by
    intro i l hi h1 h2 h3 h4 h5
    refine ⟨h1, fun x => ⟨fun h => ⟨h2 x h, h3 x h⟩, fun h => ?_⟩⟩
    have h := h.2
    induction h with
    | one => exact h4
    | mul _ hs ih =>
      have ih := ih (by assumption |> fun _ => ⟨genP_inE G hg (by assumption), by assumption⟩)
      obtain ⟨j, hj, rfl⟩ := List.mem_iff_getElem.1 ih
      exact h5 j hj (by omega) _ hs
  intro k
  induction k with
  | zero => intro i l hi h1 h2 h3 h4 h5; exact fin (Nat.le_trans (nodup_le h1 h2) (by omega)) h1 h2 h3 h4 h5
  | succ k ih =>
    intro i l hi h1 h2 h3 h4 h5
    rw [bfs]
    split
    · rename_i hil
      have hp : gt l i = l[i] := gt_nat hil
      have hpl : l[i] ∈ l := List.getElem_mem _
      refine ih (i + 1) _ (by omega) (addsN_nodup h1) (fun x hx => ?_) (fun x hx => ?_) (addsN_mem.2 (.inl h4)) (fun j hj hji s hs => ?_)
      · rcases addsN_mem.1 hx with hx | ⟨s, hs, rfl⟩
        · exact h2 x hx
        · rw [hp]; exact G.p (h2 _ hpl) (hg s hs)
      · rcases addsN_mem.1 hx with hx | ⟨s, hs, rfl⟩
        · exact h3 x hx
        · rw [hp]; exact .mul (h3 _ hpl) hs
      · obtain ⟨m, hm⟩ := addsN_pre (f := pd t (gt l i)) (xs := gens) (l := l)
        have hjl : j < l.length := by omega
        have e1 : (addsN (pd t (gt l i)) gens l)[j] = l[j] := by
          have : (addsN (pd t (gt l i)) gens l)[j]? = some l[j] := by rw [hm, List.getElem?_append_left hjl, List.getElem?_eq_getElem hjl]
          rw [List.getElem?_eq_getElem hj] at this
          exact Option.some.inj this
        rw [e1]
        by_cases e2 : j = i
        · subst e2; exact addsN_mem.2 (.inr ⟨s, hs, by rw [hp]⟩)
        · exact addsN_mem.2 (.inl (h5 j hjl (by omega) s hs))
    · exact fin (by omega) h1 h2 h3 h4 h5
/-- The subgroup that a list generates, as a list. -/
noncomputable def genL (t : List (List Int)) (gens : List Int) : List Int := memP (GenP t (ident t) (· ∈ gens)) t.length
theorem bfs_genL {t : List (List Int)} (h : grp t = true) {gens : List Int} (hg : ∀ x ∈ gens, inE t x) : srt (bfs t gens t.length 0 [ident t]) = genL t gens := by
  have G := grp_Grp h
  obtain ⟨h1, h2⟩ := bfs_ok G hg t.length 0 [ident t] (by omega) (by simp) (fun x hx => by simp at hx; subst hx; exact G.ee) (fun x hx => by simp at hx; subst hx; exact .one) (by simp) (fun j _ hj => by omega)
  exact srt_memP h1 h2
end Go.Proofs.YtbpajecjaoefaaaGreat.V

/- Groups: the program's and the reference's functions on elements. -/




namespace Go.Proofs.YtbpajecjaoefaaaGreat.V

open Go Go.RowKit Go.Proofs.Tryz

def R_inv (args : List AV) (r : AV) : Prop := ∃ t : List (List Int), sq t ∧ t.length ≤ 400 ∧ args = [LLI false false t] ∧ r = invR t
theorem fk_inv : Fk prog ⟨F_group_inverses, false, R_inv⟩ := C.group.inverses.fk (es := []) trivial <| by
  rintro _ _ ⟨t, hs, hl, rfl, rfl⟩
  exact ⟨run_inverses t hs hl, fun _ => fr_3 (.lit _) (fr_LI _) (.lit _)⟩
abbrev nilA : AV := .lit (.slice none 0 0)
/-- The group of a table. -/
def gvL (t : List (List Int)) : List AV := if val t = 0 then [LLI false false t, eN .i64 (if isG t then ident t else 0), LI true (if isG t then invs t else [])] else [nilA, eN .i64 0, nilA]
def R_of (args : List AV) (r : AV) : Prop := ∃ t : List (List Int), t.length < 2 ^ 62 ∧ args = [LLI false false t] ∧ r = .tup [.agg (gvL t), eB (grp t)]
theorem rvs_cell {n g t k : Nat} {l : List (Nat × AV)} {M : List (Option Blk)} {rs : List RV} {id : Nat} {gg gg' : Gen} {ty : TypeId} {cs : List AV} (h : t < n) (hl : lk t l = .ptr id gg 0) (hb : St.blk ⟨mkT n l, M, g⟩ id gg = some (.box gg' ty cs)) (hk : cs.length = k) :
    St.rvs ⟨mkT n l, M, g⟩ (.cell t k true :: rs) = (St.rvs ⟨mkT n l, M, g⟩ rs).map (.agg cs :: ·) := by
  have e := ev_r (M := M) (g := g) (l := l) h
  have : St.rv ⟨mkT n l, M, g⟩ (.cell t k true) = some (.agg cs) := by
    simp only [St.rv, s_load, e, hl, St.cells, hb, Option.bind_some, List.drop_zero, loadv, hk, Nat.le_refl, if_true]
    rw [← hk, List.take_length]; rfl
  simp only [St.rvs, this]
  cases St.rvs ⟨mkT n l, M, g⟩ rs <;> rfl
theorem ends_cell {n g t u k : Nat} {l : List (Nat × AV)} {M : List (Option Blk)} {id : Nat} {gg gg' : Gen} {ty : TypeId} {cs ds : List AV} {y : AV} (h : t < n) (hu : u < n) (hl : lk t l = .ptr id gg 0) (hb : St.blk ⟨mkT n l, M, g⟩ id gg = some (.box gg' ty cs)) (hk : cs.length = k)
    (hc : Cc ⟨mkT n l, M, g⟩ true true cs ds) (hc' : Cv ⟨mkT n l, M, g⟩ true true (lk u l) y) : Ends [.cell t k true, .tm u] (.tup [.agg ds, y]) .ret ⟨mkT n l, M, g⟩ := by
  refine ⟨.inl rfl, [.agg cs, lk u l], ?_, cv_tup (Cc.cons (cv_agg hc) (Cc.cons hc' Cc.nil))⟩
  rw [rvs_cell h hl hb hk, rvs_tm hu, rvs_nil]; rfl
theorem bb0 {T : List AV} {M : List (Option Blk)} {q : Nat} {gg : Gen} {t : TypeId} {cs : List AV} : St.blk ⟨T, some (.box gg t cs) :: M, q⟩ 0 gg = some (.box gg t cs) := by simp [St.blk, Blk.g]
theorem fk_gof : Fk prog ⟨F_group_of, true, R_of⟩ := C.group.of.fk (es := [⟨F_mult_Validate, false, R_val⟩, ⟨F_group_inverses, false, R_inv⟩]) ⟨fk_mValidate, fk_inv, trivial⟩ <| by
  rintro _ _ ⟨t, hl, rfl, rfl⟩
  refine ⟨Run.of C.group.of.top.eq_1 (by simp) ?_, fun h => by cases h⟩
  simp only [↓cnd_t, ↓cnd_f, ↓cnf_t, ↓cnf_f, VS, astep, Nat.reduceEqDiff, Nat.reduceAdd, Nat.reduceMul, Nat.reduceLT, Nat.reduceLeDiff, Nat.reduceBEq, Int.reduceLT, reduceCtorEq, decide_true, decide_false, Int.lt_irrefl, enum, C.group.of.rs]
  refine YC.of (R := R_val) rfl [LLI false false t] _ ⟨t, hl, rfl, rfl⟩ (.cons (cv_LLI ff ff) .nil) ?_
  simp only [↓cnd_t, ↓cnd_f, ↓cnf_t, ↓cnf_f, VS, astep, Nat.reduceEqDiff, Nat.reduceAdd, Nat.reduceMul, Nat.reduceLT, Nat.reduceLeDiff, Nat.reduceBEq, Int.reduceLT, reduceCtorEq, decide_true, decide_false, Int.lt_irrefl]
  refine ⟨fun h => ?_, fun h => ?_⟩
  · refine ends_cell (by decide) (by decide) rfl bb0 rfl ?_ ?_
    · rw [gvL, if_neg h]; exact Cc.cons (.lit _) (Cc.cons (.lit _) (Cc.cons (.lit _) Cc.nil))
    · rw [grp, decide_eq_false h]; exact .lit _
  · have h : val t = 0 := by simpa using h
    obtain ⟨a, b, c, d⟩ := val_0 h
    refine YC.of (R := R_inv) rfl [LLI false false t] _ ⟨t, a, d, rfl, rfl⟩ (.cons (cv_LLI ff ff) .nil) ?_
    simp only [↓cnd_t, ↓cnd_f, ↓cnf_t, ↓cnf_f, VS, astep, Nat.reduceEqDiff, Nat.reduceAdd, Nat.reduceMul, Nat.reduceLT, Nat.reduceLeDiff, Nat.reduceBEq, Int.reduceLT, reduceCtorEq, decide_true, decide_false, Int.lt_irrefl, invR]
    refine ends_cell (by decide) (by decide) rfl bb0 rfl ?_ ?_
    · rw [gvL, if_pos h]; exact Cc.cons (cv_LLI ff ff) (Cc.cons (.lit _) (Cc.cons (cv_LI fun _ => ⟨rfl, rfl⟩) Cc.nil))
    · rw [grp, decide_eq_true h, Bool.true_and]; exact .lit _
theorem gvL_ok (t : List (List Int)) : (gvL t).length = 3 ∧ (gvL t).all av1 = true := by
  unfold gvL
  split <;> exact ⟨rfl, rfl⟩
def R_isg (args : List AV) (r : AV) : Prop := ∃ t : List (List Int), t.length < 2 ^ 62 ∧ args = [LLI false false t] ∧ r = eB (grp t)
theorem fk_IsGroup : Fk prog ⟨F_group_IsGroup, false, R_isg⟩ := C.group.IsGroup.fk (es := [⟨F_group_of, true, R_of⟩]) ⟨fk_gof, trivial⟩ <| by
  rintro _ _ ⟨t, hl, rfl, rfl⟩
  refine ⟨Run.of C.group.IsGroup.top.eq_1 (by simp) ?_, fun _ => .lit _⟩
  simp only [↓cnd_t, ↓cnd_f, ↓cnf_t, ↓cnf_f, VS, astep, Nat.reduceEqDiff, Nat.reduceAdd, Nat.reduceMul, Nat.reduceLT, Nat.reduceLeDiff, Nat.reduceBEq, Int.reduceLT, reduceCtorEq, decide_true, decide_false, Int.lt_irrefl, enum, C.group.IsGroup.rs]
  refine YC.of (R := R_of) rfl [LLI false false t] _ ⟨t, hl, rfl, rfl⟩ (.cons (cv_LLI ff ff) .nil) ?_
  simp only [↓cnd_t, ↓cnd_f, ↓cnf_t, ↓cnf_f, VS, astep, Nat.reduceEqDiff, Nat.reduceAdd, Nat.reduceMul, Nat.reduceLT, Nat.reduceLeDiff, Nat.reduceBEq, Int.reduceLT, reduceCtorEq, decide_true, decide_false, Int.lt_irrefl]
  exact ⟨gvL_ok t, ends_b (by decide) rfl rfl⟩
theorem grp_iff {t : List (List Int)} (h : grp t = true) : val t = 0 ∧ isG t = true := by simpa [grp] using h
theorem gvL_t {t : List (List Int)} (h : grp t = true) : gvL t = [LLI false false t, eN .i64 (ident t), LI true (invs t)] := by
  obtain ⟨h1, h2⟩ := grp_iff h
  simp [gvL, h1, h2]
theorem invs_gt {t : List (List Int)} {x : Int} (hx : inE t x) : gt (invs t) x = iv t x := by
  obtain ⟨n, hn, rfl⟩ := inE_nat hx
  unfold gt iv
  rw [List.getD_eq_getElem?_getD, Int.toNat_natCast, invs_at hn]; rfl
def R_Inverse (args : List AV) (r : AV) : Prop := ∃ (t : List (List Int)) (x : Int), t.length < 2 ^ 62 ∧ args = [LLI false false t, eN .i64 x] ∧ r = eN .i64 (if grp t = true ∧ inE t x then iv t x else -1)
def R_Order (args : List AV) (r : AV) : Prop := ∃ (t : List (List Int)) (x : Int), t.length < 2 ^ 62 ∧ args = [LLI false false t, eN .i64 x] ∧ r = eN .i64 (if grp t = true ∧ inE t x then (ordI t x + 1 : Nat) else 0)
end Go.Proofs.YtbpajecjaoefaaaGreat.V

/- Groups: the reference's functions on elements. -/




namespace Go.Proofs.YtbpajecjaoefaaaGreat.V

open Go Go.RowKit Go.Proofs.Tryz

-- ref14.Identity

theorem rid_l2 {Γ : Ctx} (t : List (List Int)) (hs : sq t) (hl : t.length ≤ 400) (i : Nat) (hi : i < t.length) (g : Nat) :
    W Γ C.ref14.Identity.L2 (mk 43 [(0, LLI false false t), (3, eN .i64 i), (4, eB true), (7, eN .i64 t.length), (8, eN .i64 i), (12, eN .i64 t.length), (13, eN .i64 0)] [] g)
      (fun e s => e = .exit 2 ∧ ∃ g, s = mk 43 [(0, LLI false false t), (3, eN .i64 i), (4, eB (idB t i)), (7, eN .i64 t.length), (8, eN .i64 i)] [] g) := by
  refine W.for (n := t.length) (fun j st => ∃ g, st = mk 43 [(0, LLI false false t), (3, eN .i64 i), (4, eB ((List.range j).all (idAt t i))), (7, eN .i64 t.length), (8, eN .i64 i), (12, eN .i64 t.length), (13, eN .i64 j)] [] g) ?_ ?_ (Nat.zero_le _) ⟨_, rfl⟩
  · rintro _ ⟨g, rfl⟩
    refine W.go C.ref14.Identity.l2.eq_1 ?_
    simp only [↓cnd_t, ↓cnd_f, ↓cnf_t, ↓cnf_f, VS, astep, Nat.reduceEqDiff, Nat.reduceAdd, Nat.reduceMul, Nat.reduceLT, Nat.reduceLeDiff, Nat.reduceBEq, Int.reduceLT, reduceCtorEq, decide_true, decide_false, Int.lt_irrefl]
    exact ⟨_, rfl⟩
  · rintro j hj ih _ ⟨g, rfl⟩
    refine W.go C.ref14.Identity.l2.eq_1 ?_
    have hlt := dlt (show (j : Int) < t.length by omega)
    have r1 := (sq_row hs (x := i) (by omega) (by omega)).1
    have r2 := (sq_row hs (x := j) (by omega) (by omega)).1
    have hw := wr1 (i := j) (by omega)
    simp only [↓cnd_t, ↓cnd_f, ↓cnf_t, ↓cnf_f, VS, astep, Nat.reduceEqDiff, Nat.reduceAdd, Nat.reduceMul, Nat.reduceLT, Nat.reduceLeDiff, Nat.reduceBEq, Int.reduceLT, reduceCtorEq, decide_true, decide_false, Int.lt_irrefl, hlt, hw]
    simp only [r1, r2]
    have fin : ∀ {b : Bool} {g : Nat}, b = (List.range (j + 1)).all (idAt t i) → ∃ g', mk 43 [(0, LLI false false t), (3, eN .i64 i), (4, eB b), (7, eN .i64 t.length), (8, eN .i64 i), (12, eN .i64 t.length), (13, eN .i64 (j + 1 : Nat))] [] g = mk 43 [(0, LLI false false t), (3, eN .i64 i), (4, eB ((List.range (j + 1)).all (idAt t i))), (7, eN .i64 t.length), (8, eN .i64 i), (12, eN .i64 t.length), (13, eN .i64 (j + 1 : Nat))] [] g' := by
      rintro b g' rfl; exact ⟨_, rfl⟩
    have e := all_range_succ (idAt t i) j
    refine ⟨fun h1 => ⟨by omega, by omega, fun h2 => ⟨by omega, by omega, ih _ (fin ?_)⟩, fun h2 => ih _ (fin ?_)⟩, fun h1 => ih _ (fin ?_)⟩
    · rw [Bool.eq_iff_iff]; simp [e, h1, idAt, pd, h2]; exact ⟨fun h => decide_eq_true h, fun h => of_decide_eq_true h⟩
    · rw [e, h1, Bool.true_and, idAt, pd, decide_eq_false h2, Bool.false_and]
    · rw [e, h1, Bool.false_and]
def R_ident14 (args : List AV) (r : AV) : Prop := ∃ t : List (List Int), sq t ∧ t.length ≤ 400 ∧ args = [LLI false false t] ∧ r = eN .i64 (ident t)
theorem fk_Identity : Fk prog ⟨F_ref14_Identity, false, R_ident14⟩ := C.ref14.Identity.fk (es := []) trivial <| by
  rintro _ _ ⟨t, hs, hl, rfl, rfl⟩
  refine ⟨Run.of C.ref14.Identity.top.eq_1 (by simp) ?_, fun _ => .lit _⟩
  simp only [↓cnd_t, ↓cnd_f, ↓cnf_t, ↓cnf_f, VS, astep, Nat.reduceEqDiff, Nat.reduceAdd, Nat.reduceMul, Nat.reduceLT, Nat.reduceLeDiff, Nat.reduceBEq, Int.reduceLT, reduceCtorEq, decide_true, decide_false, Int.lt_irrefl, enum, C.ref14.Identity.rs]
  refine W.for (n := t.length) (fun i st => ∃ g, (∀ j < i, idB t j = false) ∧ st = mk 43 [(0, LLI false false t), (7, eN .i64 t.length), (8, eN .i64 i)] [] g) ?_ ?_ (Nat.zero_le _) ⟨_, fun j hj => by omega, rfl⟩
  · rintro _ ⟨g, hno, rfl⟩
    refine W.go C.ref14.Identity.l0.eq_1 ?_
    simp only [↓cnd_t, ↓cnd_f, ↓cnf_t, ↓cnf_f, VS, astep, Nat.reduceEqDiff, Nat.reduceAdd, Nat.reduceMul, Nat.reduceLT, Nat.reduceLeDiff, Nat.reduceBEq, Int.reduceLT, reduceCtorEq, decide_true, decide_false, Int.lt_irrefl]
    exact ends_n (by decide) rfl (fst_none hno).symm
  · rintro i hi ih _ ⟨g, hno, rfl⟩
    refine W.go C.ref14.Identity.l0.eq_1 ?_
    have hlt := dlt (show (i : Int) < t.length by omega)
    have hw := wr1 (i := i) (by omega)
    simp only [↓cnd_t, ↓cnd_f, ↓cnf_t, ↓cnf_f, VS, astep, Nat.reduceEqDiff, Nat.reduceAdd, Nat.reduceMul, Nat.reduceLT, Nat.reduceLeDiff, Nat.reduceBEq, Int.reduceLT, reduceCtorEq, decide_true, decide_false, Int.lt_irrefl, hlt]
    refine W.mono (rid_l2 t hs hl i hi _) ?_
    rintro _ _ ⟨rfl, g, rfl⟩
    simp only [↓cnd_t, ↓cnd_f, ↓cnf_t, ↓cnf_f, VS, astep, Nat.reduceEqDiff, Nat.reduceAdd, Nat.reduceMul, Nat.reduceLT, Nat.reduceLeDiff, Nat.reduceBEq, Int.reduceLT, reduceCtorEq, decide_true, decide_false, Int.lt_irrefl, hw]
    refine ⟨fun h => ends_n (by decide) rfl (fst_some hi h hno).symm, fun h => ih _ ⟨_, fun j hj => ?_, rfl⟩⟩
    by_cases hji : j = i
    · subst hji; exact h
    · exact hno j (by omega)
-- ref16.Inverse

def R_rInv (args : List AV) (r : AV) : Prop := ∃ (t : List (List Int)) (x : Int), sq t ∧ t.length ≤ 400 ∧ inE t x ∧ args = [LLI false false t, eN .i64 x] ∧ r = eN .i64 (ivr t x)
theorem fk_rInverse : Fk prog ⟨F_ref16_Inverse, false, R_rInv⟩ := C.ref16.Inverse.fk (es := [⟨F_ref14_Identity, false, R_ident14⟩]) ⟨fk_Identity, trivial⟩ <| by
  rintro _ _ ⟨t, x, hs, hl, hx, rfl, rfl⟩
  obtain ⟨k, hk, rfl⟩ := inE_nat hx
  refine ⟨Run.of C.ref16.Inverse.top.eq_1 (by simp) ?_, fun _ => .lit _⟩
  simp only [↓cnd_t, ↓cnd_f, ↓cnf_t, ↓cnf_f, VS, astep, Nat.reduceEqDiff, Nat.reduceAdd, Nat.reduceMul, Nat.reduceLT, Nat.reduceLeDiff, Nat.reduceBEq, Int.reduceLT, reduceCtorEq, decide_true, decide_false, Int.lt_irrefl, enum, C.ref16.Inverse.rs]
  refine YC.of (R := R_ident14) rfl [LLI false false t] _ ⟨t, hs, hl, rfl, rfl⟩ (.cons (cv_LLI ff ff) .nil) ?_
  simp only [↓cnd_t, ↓cnd_f, ↓cnf_t, ↓cnf_f, VS, astep, Nat.reduceEqDiff, Nat.reduceAdd, Nat.reduceMul, Nat.reduceLT, Nat.reduceLeDiff, Nat.reduceBEq, Int.reduceLT, reduceCtorEq, decide_true, decide_false, Int.lt_irrefl]
  refine W.for (n := t.length) (fun i st => ∃ g, (∀ j < i, invB t (ident t) k j = false) ∧ st = mk 36 [(0, LLI false false t), (1, eN .i64 k), (5, eN .i64 (ident t)), (10, eN .i64 t.length), (11, eN .i64 i)] [] g) ?_ ?_ (Nat.zero_le _) ⟨_, fun j hj => by omega, rfl⟩
  · rintro _ ⟨g, hno, rfl⟩
    refine W.go C.ref16.Inverse.l0.eq_1 ?_
    simp only [↓cnd_t, ↓cnd_f, ↓cnf_t, ↓cnf_f, VS, astep, Nat.reduceEqDiff, Nat.reduceAdd, Nat.reduceMul, Nat.reduceLT, Nat.reduceLeDiff, Nat.reduceBEq, Int.reduceLT, reduceCtorEq, decide_true, decide_false, Int.lt_irrefl]
    refine ends_n (by decide) rfl ?_
    rw [ivr, Int.toNat_natCast, fst_none hno]
  · rintro i hi ih _ ⟨g, hno, rfl⟩
    refine W.go C.ref16.Inverse.l0.eq_1 ?_
    have hlt := dlt (show (i : Int) < t.length by omega)
    have hw := wr1 (i := i) (by omega)
    have r1 := (sq_row hs (x := k) (by omega) (by omega)).1
    have r2 := (sq_row hs (x := i) (by omega) (by omega)).1
    simp only [↓cnd_t, ↓cnd_f, ↓cnf_t, ↓cnf_f, VS, astep, Nat.reduceEqDiff, Nat.reduceAdd, Nat.reduceMul, Nat.reduceLT, Nat.reduceLeDiff, Nat.reduceBEq, Int.reduceLT, reduceCtorEq, decide_true, decide_false, Int.lt_irrefl, hlt, hw]
    simp only [r1, r2]
    have no : ∀ {b : Bool}, invB t (ident t) k i = false → ∀ j < i + 1, invB t (ident t) k j = false := by
      intro b h j hj
      by_cases hji : j = i
      · subst hji; exact h
      · exact hno j (by omega)
    refine ⟨by omega, by omega, fun h1 => ⟨by omega, by omega, fun h2 => ends_n (by decide) rfl ?_, fun h2 => ih _ ⟨_, no (b := true) ?_, rfl⟩⟩, fun h1 => ih _ ⟨_, no (b := true) ?_, rfl⟩⟩
    · rw [ivr, Int.toNat_natCast, fst_some hi (by simp [invB, pd, h1, h2]) hno]
    · simp [invB, pd, h2]
    · simp [invB, pd, h1]
-- ref16.IsGroup

def R_rgrp (args : List AV) (r : AV) : Prop := ∃ t : List (List Int), t.length < 2 ^ 62 ∧ args = [LLI false false t] ∧ r = eB (grp t)
theorem fk_rIsGroup : Fk prog ⟨F_ref16_IsGroup, false, R_rgrp⟩ := C.ref16.IsGroup.fk (es := [⟨F_ref14_Valid, false, R_isval⟩, ⟨F_ref14_Identity, false, R_ident14⟩, ⟨F_ref16_Inverse, false, R_rInv⟩]) ⟨fk_rIsValid, fk_Identity, fk_rInverse, trivial⟩ <| by
  rintro _ _ ⟨t, hl, rfl, rfl⟩
  rw [← rgrp_eq]
  refine ⟨Run.of C.ref16.IsGroup.top.eq_1 (by simp) ?_, fun _ => .lit _⟩
  simp only [↓cnd_t, ↓cnd_f, ↓cnf_t, ↓cnf_f, VS, astep, Nat.reduceEqDiff, Nat.reduceAdd, Nat.reduceMul, Nat.reduceLT, Nat.reduceLeDiff, Nat.reduceBEq, Int.reduceLT, reduceCtorEq, decide_true, decide_false, Int.lt_irrefl, enum, C.ref16.IsGroup.rs]
  refine YC.of (R := R_isval) rfl [LLI false false t] _ ⟨t, hl, rfl, rfl⟩ (.cons (cv_LLI ff ff) .nil) ?_
  by_cases hv : val t = 0
  · obtain ⟨a, b, c, d⟩ := val_0 hv
    simp only [↓cnd_t, ↓cnd_f, ↓cnf_t, ↓cnf_f, VS, astep, Nat.reduceEqDiff, Nat.reduceAdd, Nat.reduceMul, Nat.reduceLT, Nat.reduceLeDiff, Nat.reduceBEq, Int.reduceLT, reduceCtorEq, decide_true, decide_false, Int.lt_irrefl, hv]
    refine YC.of (R := R_ident14) rfl [LLI false false t] _ ⟨t, a, d, rfl, rfl⟩ (.cons (cv_LLI ff ff) .nil) ?_
    simp only [↓cnd_t, ↓cnd_f, ↓cnf_t, ↓cnf_f, VS, astep, Nat.reduceEqDiff, Nat.reduceAdd, Nat.reduceMul, Nat.reduceLT, Nat.reduceLeDiff, Nat.reduceBEq, Int.reduceLT, reduceCtorEq, decide_true, decide_false, Int.lt_irrefl]
    refine ⟨fun h => ends_b (by decide) rfl (by simp [rgrp]; omega), fun h => ?_⟩
    refine W.for (n := t.length) (fun i st => ∃ g, (∀ j < i, 0 ≤ ivr t (j : Nat)) ∧ st = mk 22 [(0, LLI false false t), (13, eN .i64 t.length), (14, eN .i64 i)] [] g) ?_ ?_ (Nat.zero_le _) ⟨_, fun j hj => by omega, rfl⟩
    · rintro _ ⟨g, hno, rfl⟩
      refine W.go C.ref16.IsGroup.l0.eq_1 ?_
      simp only [↓cnd_t, ↓cnd_f, ↓cnf_t, ↓cnf_f, VS, astep, Nat.reduceEqDiff, Nat.reduceAdd, Nat.reduceMul, Nat.reduceLT, Nat.reduceLeDiff, Nat.reduceBEq, Int.reduceLT, reduceCtorEq, decide_true, decide_false, Int.lt_irrefl]
      refine ends_b (by decide) rfl ?_
      simp [rgrp, hv]; exact ⟨by omega, hno⟩
    · rintro i hi ih _ ⟨g, hno, rfl⟩
      refine W.go C.ref16.IsGroup.l0.eq_1 ?_
      have hlt := dlt (show (i : Int) < t.length by omega)
      have hw := wr1 (i := i) (by omega)
      simp only [↓cnd_t, ↓cnd_f, ↓cnf_t, ↓cnf_f, VS, astep, Nat.reduceEqDiff, Nat.reduceAdd, Nat.reduceMul, Nat.reduceLT, Nat.reduceLeDiff, Nat.reduceBEq, Int.reduceLT, reduceCtorEq, decide_true, decide_false, Int.lt_irrefl, hlt]
      refine YC.of (R := R_rInv) rfl [LLI false false t, eN .i64 i] _ ⟨t, _, a, d, inE_of hi, rfl, rfl⟩ (.cons (cv_LLI ff ff) (.cons (.lit _) .nil)) ?_
      simp only [↓cnd_t, ↓cnd_f, ↓cnf_t, ↓cnf_f, VS, astep, Nat.reduceEqDiff, Nat.reduceAdd, Nat.reduceMul, Nat.reduceLT, Nat.reduceLeDiff, Nat.reduceBEq, Int.reduceLT, reduceCtorEq, decide_true, decide_false, Int.lt_irrefl, hw]
      refine ⟨fun h1 => ends_b (by decide) rfl ?_, fun h1 => ih _ ⟨_, fun j hj => ?_, rfl⟩⟩
      · symm
        simp only [rgrp, Bool.and_eq_false_iff, List.all_eq_false, decide_eq_false_iff_not]
        exact .inr (.inr ⟨i, List.mem_range.2 hi, by simp only [decide_eq_true_eq]; omega⟩)
      · by_cases hji : j = i
        · subst hji; omega
        · exact hno j (by omega)
  · simp only [↓cnd_t, ↓cnd_f, ↓cnf_t, ↓cnf_f, VS, astep, Nat.reduceEqDiff, Nat.reduceAdd, Nat.reduceMul, Nat.reduceLT, Nat.reduceLeDiff, Nat.reduceBEq, Int.reduceLT, reduceCtorEq, decide_true, decide_false, Int.lt_irrefl, hv]
    exact ends_b (by decide) rfl (by simp [rgrp, hv])
-- large

def R_large (args : List AV) (r : AV) : Prop := ∃ (t : List (List Int)) (n : Int), t.length < 2 ^ 62 ∧ args = [LLI false false t, eN .i64 n] ∧ r = eB (decide (n < t.length) && decide (shp t = 0))
theorem fk_large : Fk prog ⟨F_law16_large, false, R_large⟩ := C.law16.large.fk (es := [⟨F_ref14_Shape, false, R_Shape⟩]) ⟨fk_ref14.Shape, trivial⟩ <| by
  rintro _ _ ⟨t, n, hl, rfl, rfl⟩
  refine ⟨Run.of C.law16.large.top.eq_1 (by simp) ?_, fun _ => .lit _⟩
  simp only [↓cnd_t, ↓cnd_f, ↓cnf_t, ↓cnf_f, VS, astep, Nat.reduceEqDiff, Nat.reduceAdd, Nat.reduceMul, Nat.reduceLT, Nat.reduceLeDiff, Nat.reduceBEq, Int.reduceLT, reduceCtorEq, decide_true, decide_false, Int.lt_irrefl, enum, C.law16.large.rs]
  refine ⟨fun h => ?_, fun h => ends_b (by decide) rfl (by simp; omega)⟩
  refine YC.of (R := R_Shape) rfl [LLI false false t] _ ⟨t, hl, rfl, rfl⟩ (.cons (cv_LLI ff ff) .nil) ?_
  simp only [↓cnd_t, ↓cnd_f, ↓cnf_t, ↓cnf_f, VS, astep, Nat.reduceEqDiff, Nat.reduceAdd, Nat.reduceMul, Nat.reduceLT, Nat.reduceLeDiff, Nat.reduceBEq, Int.reduceLT, reduceCtorEq, decide_true, decide_false, Int.lt_irrefl]
  exact ends_b (by decide) rfl (by simp [h])
end Go.Proofs.YtbpajecjaoefaaaGreat.V

/- The abstract machine: functions that hand over a row of their own, for the caller to write. -/
namespace Go.Proofs.YtbpajecjaoefaaaGreat.V
open Go Go.RowKit

section
variable {P : Program} {s0 : Nat} {S : Nat → Nat → Prop} {w0 : Base} {D : Nat → Prop} {X X' : Claims} {H : Heads} {st : St} {a : Act} {w w' : World}
/-- A block that lies there becomes one of the call's own. -/
theorem Sim.adopt (h : Sim s0 S w0 D X H st a w) {id i : Nat} {B' : Blk} {v : Value} (hi : ¬ D i) (hid : id < st.M.length) (hB : B'.g = (st.g, i))
    (hne : ∀ b, hblk v = some b → ∀ j E u, st.M[j]? = some (some E) → H j E.g = some u → hblk u ≠ some b)
    (hok : BlkOK X s0 S (H.upd id (st.g, i) v) w id B') : Sim s0 S w0 (fun j => D j ∨ j = i) X (H.upd id (st.g, i) v) { st with M := st.M.set id (some B') } a w := by
  have hnone : H id (st.g, i) = none := h.gens id st.g i (.inr ⟨rfl, hi⟩)
  have hle : H.le (H.upd id (st.g, i) v) := Heads.upd_le hnone
  have hg : w.grownBy w none := ⟨rfl, rfl, rfl, Nat.le_refl _, fun k hk _ => rfl⟩
  have hold : ∀ j E, j ≠ id → st.M[j]? = some (some E) → ∃ u, H j E.g = some u ∧ (H.upd id (st.g, i) v) j E.g = some u := by
    intro j E hj hE
    obtain ⟨u, hu, hub⟩ := (h.blks j E hE).head
    exact ⟨u, hu, hle _ _ _ hu⟩
  refine { sz := h.sz, df := h.df, tm := fun j x hj => (h.tm j x hj).mono (Claims.le.refl X) (Nat.le_refl _) hle, claims := h.claims, old := h.old, s0_eq := h.s0_eq, x0 := h.x0, size := h.size, os := h.os, tape := h.tape, output := h.output, blks := ?_, inj := ?_, gens := ?_, inv := h.inv }
  · intro j E hE
    simp only [List.getElem?_set] at hE
    by_cases e : id = j
    · subst e
      rw [if_pos rfl, if_pos hid] at hE
      injection hE with hE; injection hE with hE; subst hE; exact hok
    · rw [if_neg e] at hE
      refine (h.blks j E hE).kept (Claims.le.refl X) hle hg (by simp) ?_
      intro u2 b hu2 hb
      obtain ⟨u3, hu3, hb3⟩ := (h.blks j E hE).head
      obtain rfl : u2 = u3 := by rw [hu2] at hu3; injection hu3
      exact (hb3 b hb).2.2
  · intro p q E E' u u' b hp hq hu hu' hb hb'
    simp only [List.getElem?_set] at hp hq
    apply Classical.byContradiction
    intro hpq
    by_cases e : id = p
    · subst e
      rw [if_pos rfl, if_pos hid] at hp
      injection hp with hp; injection hp with hp; subst hp
      rw [hB, Heads.upd_same] at hu
      injection hu with hu; subst hu
      rw [if_neg hpq] at hq
      obtain ⟨u2, hu2, hu3⟩ := hold q E' (fun x => hpq x.symm) hq
      obtain rfl : u' = u2 := by rw [hu'] at hu3; injection hu3
      exact hne b hb q E' u' hq hu2 hb'
    · by_cases e' : id = q
      · subst e'
        rw [if_pos rfl, if_pos hid] at hq
        injection hq with hq; injection hq with hq; subst hq
        rw [hB, Heads.upd_same] at hu'
        injection hu' with hu'; subst hu'
        rw [if_neg e] at hp
        obtain ⟨u2, hu2, hu3⟩ := hold p E hpq hp
        obtain rfl : u = u2 := by rw [hu] at hu3; injection hu3
        exact hne b hb' p E u hp hu2 hb
      · rw [if_neg e] at hp
        rw [if_neg e'] at hq
        obtain ⟨u2, h2, h2'⟩ := hold p E (fun x => e x.symm) hp
        obtain ⟨u3, h3, h3'⟩ := hold q E' (fun x => e' x.symm) hq
        obtain rfl : u = u2 := by rw [hu] at h2'; injection h2'
        obtain rfl : u' = u3 := by rw [hu'] at h3'; injection h3'
        exact hpq (h.inj p q E E' u u' b hp hq h2 h3 hb hb')
  · intro j c m hc
    have hn : ¬ (j = id ∧ (c, m) = (st.g, i)) := by
      rintro ⟨_, e⟩
      injection e with e1 e2
      subst e1; subst e2
      rcases hc with hc | ⟨_, hc⟩
      · simp only at hc; omega
      · exact hc (.inr rfl)
    rw [Heads.upd_other hn]
    exact h.gens j c m (hc.imp (fun x => x) fun ⟨e, x⟩ => ⟨e, fun y => x (.inl y)⟩)
end
/-- A function that hands over a row of its own. -/
def ConO (P : Program) (f : FuncId) (R : List AV → TypeId → Nat → Nat → List AV → Prop) : Prop :=
  ∀ (args : List AV) (e : TypeId) (k n : Nat) (cs : List AV), R args e k n cs → ∀ (X : Claims) (w : World) (vals : Array Value), (∀ b o v, X b o = some v → w.cell? ⟨b, o, none⟩ = some v) → Cs X w.heap.size H0 args vals.toList →
    Calls P f vals w fun e' w' => ∃ v Y xs, e' = .returned v ∧ (∀ b o u, Y b o = some u → w.heap.size ≤ b ∧ w'.cell? ⟨b, o, none⟩ = some u) ∧ w'.ownsRow 0 e k v n xs ∧ Cs Y w.heap.size H0 cs xs ∧ 0 < k ∧ (∀ b, hblk v = some b → w.heap.size ≤ b ∧ ∀ o, Y b o = none) ∧ Below w.heap.size w w'
/-- Its caller's side: the row lies at a place of the caller's. -/
def S_O (R : List AV → TypeId → Nat → Nat → List AV → Prop) (i : Nat) (st : St) (xs : List AV) (r : AV) (M' : List (Option Blk)) : Prop :=
  ∃ (args : List AV) (id : Nat) (e : TypeId) (k n : Nat) (cs : List AV), CvL st true xs args ∧ R args e k n cs ∧ id < st.M.length ∧ r = .own id (st.g, i) ∧ M' = st.M.set id (some (.row (st.g, i) e k n cs))
theorem conX_O {P : Program} {f : FuncId} {R : List AV → TypeId → Nat → Nat → List AV → Prop} (h : ConO P f R) : ConX P f (S_O R) := by
  rintro i st xs _ _ ⟨args, id, e, k, n, cs, hcv, hR, hid, rfl, rfl⟩ s0 S w0 D X H a w vals hq hS hi hC
  have hl := hcv.len
  refine (h args e k n cs hR (allX w) w vals (fun b o v h => h) ⟨by rw [hC.len, hl], fun j y u hy hu => ?_⟩).mono ?_
  · have hjx : j < xs.length := by rw [← hl]; exact (List.getElem?_eq_some_iff.1 hy).1
    have hx := List.getElem?_eq_getElem hjx
    exact (hcv.at_ j _ y hx hy).sound (v := .tuple #[]) hS (hC.at_ j _ u hx hu) (fun b o u hu => hS.claims b o u hu) (fun _ b o u hu _ => hu) (by simp)
  · rintro e' w' ⟨v, Y, vs, rfl, hY, hrow, hcs, hk, hblk', hB⟩
    have hS' := hS.called (q_false hq) hB hY
    have hsz := hS.size
    refine ⟨v, orX X Y, H.upd id (st.g, i) v, rfl, hS'.adopt hi hid rfl ?_ ?_, .own (Heads.upd_same ..) ?_⟩
    · intro b hb j E u hE hu hub
      obtain ⟨u2, hu2, hb2⟩ := (hS.blks j E hE).head
      obtain rfl : u = u2 := by rw [hu] at hu2; injection hu2
      have := (hb2 b hub).1
      have := (hblk' b hb).1
      omega
    · refine ⟨v, vs, Heads.upd_same .., hrow, hcs.mono (fun b o u hu => ?_) hsz H0_le, hk, fun b hb => ⟨.inl ?_, fun o => ?_⟩⟩
      · unfold orX
        cases hX : X b o with
        | none => exact hu
        | some z =>
          have h1 := World.block_lt_of_cell? w _ (hS.claims b o z hX)
          have h2 := (hY b o u hu).1
          simp only at h1
          omega
      · have := (hblk' b hb).1; omega
      · have h1 := hblk' b hb
        unfold orX
        cases hX : X b o with
        | none => exact h1.2 o
        | some z =>
          have h2 := World.block_lt_of_cell? w _ (hS.claims b o z hX)
          have := h1.1
          simp only at h2
          omega
    · rcases ownsRow_head hrow with ⟨rfl, _⟩ | ⟨b, cap, rfl, _⟩ <;> rfl
/-- New memory, whatever else is known. -/
theorem Fr.cap {X : Claims} {s0 : Nat} {H : Heads} {r : AV} (hr : Fr r) : ∀ {v : Value}, C X s0 H r v → C (fun b o => if s0 ≤ b then X b o else none) s0 H0 r v := by
  induction hr with
  | lit u => intro v h; cases h; exact .lit _
  | frz _ ih =>
    intro v h
    cases h with
    | frz0 => exact .frz0
    | frz hl h0 hn hc hv hx hC =>
      refine .frz hl h0 hn hc hv (fun j u hj => ?_) fun j x u a b => ih j x a (hC j x u a b)
      rw [if_pos (hl rfl)]
      exact hx j u hj
  | frz0 => intro v h; cases h with
    | frz0 => exact .frz0
    | frz _ h0 => omega
  | agg _ ih => intro v h; cases h with
    | agg hv hC => exact .agg hv fun j x u a b => ih j x a (hC j x u a b)
  | tup _ ih => intro v h; cases h with
    | tup hv hC => exact .tup hv fun j x u a b => ih j x a (hC j x u a b)
  | ifc _ ih => intro v h; cases h with
    | ifc h => exact .ifc (ih h)
/-- Where a run ends: with a row of its own. -/
def EndsO (rs : List RV) (e : TypeId) (k n : Nat) (cs : List AV) (ex : Exit) (st : St) : Prop :=
  (ex = .ret ∨ ex = .normal) ∧ ∃ id g, st.rvs rs = some [.own id g] ∧ st.M[id]? = some (some (.row g e k n cs)) ∧ ∀ x ∈ cs, Fr x
def RunO (Γ : Ctx) (ac : AC) (rs : List RV) (nt ns : Nat) (args : List AV) (e : TypeId) (k n : Nat) (cs : List AV) : Prop := ∃ ex st', Ex Γ ac (st0 nt ns args) ex st' ∧ EndsO rs e k n cs ex st'
theorem RunO.of {Γ : Ctx} {ac ac' : AC} {rs : List RV} {nt ns : Nat} {args : List AV} {e : TypeId} {k n : Nat} {cs : List AV} (h1 : ac = ac') (hl : args.length ≤ nt) (h : X Γ ac' ⟨mkT nt (enum 0 args), List.replicate ns none, 0⟩ [] (EndsO rs e k n cs)) : RunO Γ ac rs nt ns args e k n cs := by
  obtain ⟨ex, st', h2, h3⟩ := W.top h1 h
  exact ⟨ex, st', by rw [st0_mk hl]; exact h2, h3⟩
theorem ends_o {n g t id k m : Nat} {gg : Gen} {l : List (Nat × AV)} {M : List (Option Blk)} {e : TypeId} {cs : List AV} (h : t < n) (hl : lk t l = .own id gg) (hM : M[id]? = some (some (.row gg e k m cs))) (hf : ∀ x ∈ cs, Fr x) : EndsO [.tm t] e k m cs .ret ⟨mkT n l, M, g⟩ :=
  ⟨.inl rfl, id, gg, by rw [rvs_tm h, rvs_nil, hl]; rfl, hM, hf⟩
structure Oe where
  f : Nat
  R : List AV → TypeId → Nat → Nat → List AV → Prop
structure Fo (P : Program) (e : Oe) : Prop where
  con : ConO P e.f e.R
  ent : Enters P e.f
theorem Fo.sp {P : Program} {e : Oe} (h : Fo P e) : Fsp P ⟨e.f, S_O e.R⟩ := ⟨conX_O h.con, h.ent⟩
theorem fo_of {P : Program} {es : List Ent} {ss : List Spe} (hes : Fks P es) (hss : Fsps P ss) (hmix : P.follows .mixedOrders = true) {f : Nat} {fn : Func} {A : Anno} {ac : AC} {rs : List RV} {R : List AV → TypeId → Nat → Nat → List AV → Prop}
    (hf : P.funcs[f]? = some fn) (hn : (fn.name == "runtime.NumGoroutine") = false) (hc : fn.body.bind (compile P A) = some ac) (hrs : rvsOf P fn.results.toList = some rs)
    (h : ∀ args e k n cs, R args e k n cs → RunO (ctx es ss) ac rs fn.ntmps A.ns args e k n cs) : Fo P ⟨f, R⟩ := by
  cases hb : fn.body with
  | none => rw [hb] at hc; cases hc
  | some code =>
    rw [hb] at hc
    have hΓ : CtxOK P (ctx es ss) := ⟨fun f l R e => (hes.at_ e).1, fun f R e => ⟨(hss.at_ e).1, rfl, (hss.at_ e).2⟩⟩
    have hfn : ∀ f, ((ctx es ss) f).isSome = true → ∀ (vals : Array Value) (w : World), (callFunc f vals).run P w = .ok (.enter f vals) w := fun f e => by
      cases h2 : ctxF es f with
      | none => have : (ctxF es f).isSome = true := e; rw [h2] at this; cases this
      | some p => obtain ⟨l, R⟩ := p; exact (hes.at_ h2).2
    refine ⟨?_, enters_of hf hn hb⟩
    intro args e k n cs hR X w vals hX hargs
    obtain ⟨ex, st', hE, he, id, g, hxs, hM, hfr⟩ := h args e k n cs hR
    refine calls_of_wp hf hb ?_
    have hlen : vals.size = args.length := by simpa using hargs.len
    have hSim : Sim w.heap.size (fun _ _ => False) ⟨w, X, false⟩ (fun _ => False) X H0 (st0 fn.ntmps A.ns args) { tmps := vals ++ Array.replicate (fn.ntmps - vals.size) undef, defers := [] } w := by
      refine { sz := by simp [st0, hlen], tm := ?_, df := rfl, claims := hX, blks := ?_, inj := ?_, s0_eq := rfl, x0 := fun b o v h _ => h, size := Nat.le_refl _, os := rfl, tape := rfl, output := rfl, old := fun _ _ _ => rfl, gens := fun _ _ _ _ => rfl, inv := fun _ => ⟨0, rfl⟩ }
      · intro j x hj
        simp only [st0] at hj
        by_cases hjl : j < args.length
        · rw [List.getElem?_append_left hjl] at hj
          have hv : vals.toList[j]? = some vals[j] := by rw [Array.getElem?_toList]; exact Array.getElem?_eq_getElem (by omega)
          have := hargs.at_ j x _ hj hv
          rw [Array.getD_eq_getD_getElem?, Array.getElem?_append_left (by omega), Array.getElem?_eq_getElem (by omega)]
          exact this
        · rw [List.getElem?_append_right (by omega), List.getElem?_replicate] at hj
          split at hj
          · injection hj with hj; subst hj; exact .junk _
          · cases hj
      · intro id B hM
        simp only [st0, List.getElem?_replicate] at hM
        split at hM <;> simp at hM
      · intro i j B B' v v' b hM
        simp only [st0, List.getElem?_replicate] at hM
        split at hM <;> simp at hM
    obtain ⟨m, hsnd⟩ := hE.sound (s0 := w.heap.size) (S := fun _ _ => False) (w0 := ⟨w, X, false⟩) (fun _ _ h => h) hmix hΓ hfn (A := A) (fun e => by cases e)
    refine wp_mono (hsnd code (.inl hc) hSim).1 ?_
    rintro e' a' w' ⟨rfl, X', H', hS⟩
    have hB : Below w.heap.size w w' := ⟨hS.os, hS.tape, hS.output, hS.size, fun k hk => hS.old k hk (by simp)⟩
    obtain ⟨v, hv, hCv⟩ := hS.results hrs hxs
    obtain ⟨u, us, g1, g2, g3, g4, g5⟩ := hS.blks id _ hM
    have huv : u = v := by
      have hCv : C X' w.heap.size H' (.own id g) v := hCv
      cases hCv with
      | own b1 _ => have g1 : H' id g = some u := g1; rw [g1] at b1; injection b1
    subst huv
    have fin : a'.defers = [] ∧ ∃ v, (results fn a'.tmps).run P w' = .ok v w' ∧ ∃ v1 Y xs, Ending.returned v = .returned v1 ∧ (∀ b o u, Y b o = some u → w.heap.size ≤ b ∧ w'.cell? ⟨b, o, none⟩ = some u) ∧ w'.ownsRow 0 e k v1 n xs ∧ Cs Y w.heap.size H0 cs xs ∧ 0 < k ∧ (∀ b, hblk v1 = some b → w.heap.size ≤ b ∧ ∀ o, Y b o = none) ∧ Below w.heap.size w w' := by
      refine ⟨hS.df, u, hv, u, fun b o => if w.heap.size ≤ b then X' b o else none, us, rfl, fun b o z hz => ?_, g2, ⟨g3.len, fun j x z hx hz => (hfr x (List.mem_of_getElem? hx)).cap (g3.at_ j x z hx hz)⟩, g4, fun b hb => ⟨((g5 b hb).1).resolve_right (by simp), fun o => ?_⟩, hB⟩
      · have hz : (if w.heap.size ≤ b then X' b o else none) = some z := hz
        split at hz
        · rename_i hle; exact ⟨hle, hS.claims b o z hz⟩
        · cases hz
      · show (if w.heap.size ≤ b then X' b o else none) = none
        rw [(g5 b hb).2 o]; simp
    rcases he with rfl | rfl <;> exact fin
end Go.Proofs.YtbpajecjaoefaaaGreat.V
