/- Texts of the machine V and of the proofs over it, one behind the other. -/
import Derived.Test.YtbpajecjaoefaaaGreatM3
set_option linter.unusedVariables false
set_option linter.unusedSimpArgs false
/- The subgroup that elements generate: the program's walk; closures and commutators. -/





namespace Go.Proofs.YtbpajecjaoefaaaGreat.V

open Go Go.RowKit Go.Proofs.Tryz

abbrev gB (gg : Gen) (t : List (List Int)) : Option Blk := some (.box gg Tgroup_group [LLI false false t, eN .i64 (ident t), LI false (invs t)])
abbrev gI (gg : Gen) (n : Nat) (l : List Int) : Option Blk := some (eM gg Tbool 1 n (c1 eB) (inSet l n))
abbrev gL (gg : Gen) (l : List Int) : Option Blk := some (eR gg Tint 1 (c1 (eN .i64)) l)
def okL (t : List (List Int)) (l : List Int) : Prop := l.Nodup ∧ ∀ x ∈ l, inE t x
theorem okL_len {t : List (List Int)} {l : List Int} (h : okL t l) : l.length ≤ t.length := nodup_le h.1 h.2
theorem okL_add {t : List (List Int)} {l : List Int} {y : Int} (h : okL t l) (hy : inE t y) : okL t (addNew l y) :=
  ⟨addNew_nodup h.1, fun x hx => by rcases addNew_mem.1 hx with hx | rfl; · exact h.2 x hx
                                    · exact hy⟩
theorem okL_adds {α : Type} {t : List (List Int)} {f : α → Int} : ∀ {xs : List α} {l : List Int}, okL t l → (∀ x ∈ xs, inE t (f x)) → okL t (addsN f xs l)
  | [], l, h, _ => h
  | x :: xs, l, h, hf => okL_adds (xs := xs) (okL_add h (hf x (List.mem_cons_self ..))) fun y hy => hf y (List.mem_cons_of_mem _ hy)
theorem take_succ' {α : Type} {l : List α} {j : Nat} (h : j < l.length) : l.take (j + 1) = l.take j ++ [l[j]] := by rw [List.take_add_one, List.getElem?_eq_getElem h]; rfl
theorem addNew_in {l : List Int} {y : Int} (h : y ∈ l) : addNew l y = l := if_pos h
theorem addNew_out {l : List Int} {y : Int} (h : y ∉ l) : addNew l y = l ++ [y] := if_neg h
theorem gen_l2 {Γ : Ctx} (t : List (List Int)) (h : grp t = true) (gens : List Int) (hg : ∀ x ∈ gens, inE t x) (hgl : gens.length < 2 ^ 46) (I : Nat) (l0 : List Int) (ok : okL t l0) (hI : I < l0.length) (g : Nat) (gb g1 g2 : Gen) :
    W Γ C.group.group.generate.L2 (mk 61 [(1, LI false gens), (2, .ptr 0 gb 0), (5, .own 1 g1), (6, .own 2 g2), (7, eN .i64 I), (28, LI false gens), (29, eN .i64 gens.length), (30, eN .i64 0)] [gB gb t, gI g1 t.length l0, gL g2 l0, none] g)
      (fun e s => e = .exit 2 ∧ ∃ g g2, s = mk 61 [(1, LI false gens), (2, .ptr 0 gb 0), (5, .own 1 g1), (6, .own 2 g2), (7, eN .i64 I)] [gB gb t, gI g1 t.length (addsN (pd t (gt l0 I)) gens l0), gL g2 (addsN (pd t (gt l0 I)) gens l0), none] g) := by
  have G := grp_Grp h
  have hn := G.n
  have hp0 : gt l0 I = l0[I] := gt_nat hI
  have hpi : inE t (gt l0 I) := by rw [hp0]; exact ok.2 _ (List.getElem_mem _)
  refine W.for (n := gens.length) (fun j st => ∃ g g2, st = mk 61 [(1, LI false gens), (2, .ptr 0 gb 0), (5, .own 1 g1), (6, .own 2 g2), (7, eN .i64 I), (28, LI false gens), (29, eN .i64 gens.length), (30, eN .i64 j)] [gB gb t, gI g1 t.length (addsN (pd t (gt l0 I)) (gens.take j) l0), gL g2 (addsN (pd t (gt l0 I)) (gens.take j) l0), none] g) ?_ ?_ (Nat.zero_le _) ⟨_, _, rfl⟩
  · rintro _ ⟨g, g2, rfl⟩
    refine W.go C.group.group.generate.l2.eq_1 ?_
    rw [List.take_length]
    simp only [↓cnd_t, ↓cnd_f, ↓cnf_t, ↓cnf_f, VS, astep, Nat.reduceEqDiff, Nat.reduceAdd, Nat.reduceMul, Nat.reduceLT, Nat.reduceLeDiff, Nat.reduceBEq, Int.reduceLT, reduceCtorEq, decide_true, decide_false, Int.lt_irrefl]
    exact ⟨_, _, rfl⟩
  · rintro j hj ih _ ⟨g, g2, rfl⟩
    refine W.go C.group.group.generate.l2.eq_1 ?_
    have hlt := dlt (show (j : Int) < gens.length by omega)
    have hw := wr1 (i := j) (by omega)
    have hgj : gt gens j = gens[j] := gt_nat hj
    have hxi := hg _ (List.getElem_mem hj)
    have hokj : okL t (addsN (pd t (gt l0 I)) (gens.take j) l0) := okL_adds ok fun x hx => G.p hpi (hg x (List.mem_of_mem_take hx))
    have hlen := okL_len hokj
    have hy := G.p hpi hxi
    have hnext : addsN (pd t (gt l0 I)) (gens.take (j + 1)) l0 = addNew (addsN (pd t (gt l0 I)) (gens.take j) l0) (pd t (gt l0 I) gens[j]) := by rw [take_succ' hj, addsN_snoc]
    obtain ⟨m, hm⟩ := addsN_pre (f := pd t (gt l0 I)) (xs := gens.take j) (l := l0)
    have hgi : gt (addsN (pd t (gt l0 I)) (gens.take j) l0) I = gt l0 I := by
      rw [hm, gt_nat (by simp; omega), List.getElem_append_left hI, hp0]
    have hI' : I < (addsN (pd t (gt l0 I)) (gens.take j) l0).length := by rw [hm]; simp; omega
    rw [hnext] at ih
    generalize addsN (pd t (gt l0 I)) (gens.take j) l0 = l at ih hokj hlen hgi hI' ⊢
    have r1 := (sq_row G.s hpi.1 hpi.2).1
    simp only [↓cnd_t, ↓cnd_f, ↓cnf_t, ↓cnf_f, VS, astep, Nat.reduceEqDiff, Nat.reduceAdd, Nat.reduceMul, Nat.reduceLT, Nat.reduceLeDiff, Nat.reduceBEq, Int.reduceLT, reduceCtorEq, decide_true, decide_false, Int.lt_irrefl, hlt, hw]
    simp only [hgi, hgj, r1, inSet_len]
    have e3 : gt (gt t (gt l0 I)) gens[j] = pd t (gt l0 I) gens[j] := rfl
    simp only [e3, inSet_gt hy.1 hy.2]
    have hyn : (pd t (gt l0 I) gens[j]).toNat < t.length := by obtain ⟨a, b⟩ := hy; omega
    refine ⟨by omega, by omega, by omega, hpi, hxi, hy, hyn, fun hd => ⟨hy, hyn, ⟨by omega, by omega⟩, ?_⟩, fun hd => ?_⟩
    · have := ih _ ⟨g + 1 + 1 + 1 + 1 + 1 + 1 + 1, (g + 1 + 1 + 1 + 1 + 1, 3), rfl⟩
      rw [addNew_out (of_decide_eq_false hd)] at this
      unfold gL eR at this
      rw [List.length_append] at this
      rw [inSet_put hy.1 hy.2]
      exact this
    · have := ih _ ⟨g + 1 + 1 + 1 + 1 + 1, g2, rfl⟩
      rw [addNew_in (of_decide_eq_true hd)] at this
      exact this
theorem gen_l0 {Γ : Ctx} (t : List (List Int)) (h : grp t = true) (gens : List Int) (hg : ∀ x ∈ gens, inE t x) (hgl : gens.length < 2 ^ 46) (l0 : List Int) (ok : okL t l0) (g : Nat) (gb g1 g2 : Gen) :
    W Γ C.group.group.generate.L0 (mk 61 [(1, LI false gens), (2, .ptr 0 gb 0), (5, .own 1 g1), (6, .own 2 g2), (7, eN .i64 0)] [gB gb t, gI g1 t.length l0, gL g2 l0, none] g)
      (fun e s => e = .exit 0 ∧ ∃ g g2, s = mk 61 [(6, .own 2 g2)] [none, none, gL g2 (bfs t gens t.length 0 l0), none] g) := by
  have G := grp_Grp h
  have hn := G.n
  refine W.for (n := t.length) (fun i st => ∃ g g2 l, okL t l ∧ bfs t gens (t.length - i) i l = bfs t gens t.length 0 l0 ∧ st = mk 61 [(1, LI false gens), (2, .ptr 0 gb 0), (5, .own 1 g1), (6, .own 2 g2), (7, eN .i64 i)] [gB gb t, gI g1 t.length l, gL g2 l, none] g) ?_ ?_ (Nat.zero_le _) ⟨_, _, l0, ok, rfl, rfl⟩
  · rintro _ ⟨g, g2, l, hok, hb, rfl⟩
    refine W.go C.group.group.generate.l0.eq_1 ?_
    have hd : decide ((t.length : Int) < l.length) = false := decide_eq_false (by have := okL_len hok; omega)
    simp only [↓cnd_t, ↓cnd_f, ↓cnf_t, ↓cnf_f, VS, astep, Nat.reduceEqDiff, Nat.reduceAdd, Nat.reduceMul, Nat.reduceLT, Nat.reduceLeDiff, Nat.reduceBEq, Int.reduceLT, reduceCtorEq, decide_true, decide_false, Int.lt_irrefl, hd]
    rw [Nat.sub_self] at hb
    exact ⟨_, _, by rw [← hb]; rfl⟩
  · rintro i hi ih _ ⟨g, g2, l, hok, hb, rfl⟩
    refine W.go C.group.group.generate.l0.eq_1 ?_
    obtain ⟨k, hk⟩ : ∃ k, t.length - i = k + 1 := ⟨t.length - i - 1, by omega⟩
    rw [hk, bfs] at hb
    by_cases hil : i < l.length
    · have hd := dlt (show (i : Int) < l.length by omega)
      rw [if_pos hil] at hb
      simp only [↓cnd_t, ↓cnd_f, ↓cnf_t, ↓cnf_f, VS, astep, Nat.reduceEqDiff, Nat.reduceAdd, Nat.reduceMul, Nat.reduceLT, Nat.reduceLeDiff, Nat.reduceBEq, Int.reduceLT, reduceCtorEq, decide_true, decide_false, Int.lt_irrefl, hd]
      refine W.mono (gen_l2 t h gens hg hgl i l hok hil _ gb g1 g2) ?_
      rintro _ _ ⟨rfl, g, g2, rfl⟩
      have hw := wr1 (i := i) (by omega)
      simp only [↓cnd_t, ↓cnd_f, ↓cnf_t, ↓cnf_f, VS, astep, Nat.reduceEqDiff, Nat.reduceAdd, Nat.reduceMul, Nat.reduceLT, Nat.reduceLeDiff, Nat.reduceBEq, Int.reduceLT, reduceCtorEq, decide_true, decide_false, Int.lt_irrefl, hw]
      have hpi : inE t (gt l i) := by rw [gt_nat hil]; exact hok.2 _ (List.getElem_mem _)
      exact ih _ ⟨_, _, _, okL_adds hok fun x hx => G.p hpi (hg x hx), by rw [show t.length - (i + 1) = k by omega]; exact hb, rfl⟩
    · have hd : decide ((i : Int) < l.length) = false := decide_eq_false (by omega)
      rw [if_neg hil] at hb
      simp only [↓cnd_t, ↓cnd_f, ↓cnf_t, ↓cnf_f, VS, astep, Nat.reduceEqDiff, Nat.reduceAdd, Nat.reduceMul, Nat.reduceLT, Nat.reduceLeDiff, Nat.reduceBEq, Int.reduceLT, reduceCtorEq, decide_true, decide_false, Int.lt_irrefl, hd]
      exact ⟨_, _, by rw [← hb]⟩
def gA_ (t : List (List Int)) : AV := .agg [LLI false false t, eN .i64 (ident t), LI false (invs t)]
def R_gen (args : List AV) (r : AV) : Prop := ∃ (t : List (List Int)) (gens : List Int), grp t = true ∧ (∀ x ∈ gens, inE t x) ∧ gens.length < 2 ^ 46 ∧ args = [gA_ t, LI false gens] ∧ r = LI true (genL t gens)
theorem fk_gen : Fk prog ⟨F_group_group_generate, false, R_gen⟩ := C.group.group.generate.fkS (es := []) (ss := [⟨F_sort_Ints, S_sortInts⟩]) trivial ⟨fsp_sortInts, trivial⟩ <| by
  rintro _ _ ⟨t, gens, h, hg, hgl, rfl, rfl⟩
  have G := grp_Grp h
  have hn := G.n
  refine ⟨Run.of C.group.group.generate.top.eq_1 (by simp) ?_, fun _ => fr_LI _⟩
  simp only [↓cnd_t, ↓cnd_f, ↓cnf_t, ↓cnf_f, VS, astep, Nat.reduceEqDiff, Nat.reduceAdd, Nat.reduceMul, Nat.reduceLT, Nat.reduceLeDiff, Nat.reduceBEq, Int.reduceLT, reduceCtorEq, decide_true, decide_false, Int.lt_irrefl, enum, C.group.group.generate.rs, gA_, List.length_cons, List.length_nil]
  have hee := G.ee
  have hen : (ident t).toNat < t.length := by obtain ⟨a, b⟩ := hee; omega
  simp only [Int.toNat_natCast, ← inSet_nil, inSet_len, inSet_put hee.1 hee.2, List.nil_append]
  refine ⟨by omega, hee, hen, ?_⟩
  have ok : okL t [ident t] := ⟨by simp, fun x hx => by simp at hx; subst hx; exact hee⟩
  refine W.mono (gen_l0 t h gens hg hgl [ident t] ok _ (0, 0) (1, 3) (3, 2)) ?_
  rintro _ _ ⟨rfl, g, g2, rfl⟩
  have hb : (bfs t gens t.length 0 [ident t]).length ≤ t.length := by
    have := bfs_ok G hg t.length 0 [ident t] (by omega) ok.1 ok.2 (fun x hx => by simp at hx; subst hx; exact .one) (by simp) (fun j _ hj => by omega)
    exact nodup_le this.1 fun x hx => ((this.2 x).1 hx).1
  simp only [↓cnd_t, ↓cnd_f, ↓cnf_t, ↓cnf_f, VS, astep, Nat.reduceEqDiff, Nat.reduceAdd, Nat.reduceMul, Nat.reduceLT, Nat.reduceLeDiff, Nat.reduceBEq, Int.reduceLT, reduceCtorEq, decide_true, decide_false, Int.lt_irrefl]
  refine YC.sp (R := S_sortInts) rfl (.tup []) _ ⟨2, g2, Tint, bfs t gens t.length 0 [ident t], by omega, rfl, rfl, rfl, rfl⟩ ?_
  simp only [↓cnd_t, ↓cnd_f, ↓cnf_t, ↓cnf_f, VS, astep, Nat.reduceEqDiff, Nat.reduceAdd, Nat.reduceMul, Nat.reduceLT, Nat.reduceLeDiff, Nat.reduceBEq, Int.reduceLT, reduceCtorEq, decide_true, decide_false, Int.lt_irrefl]
  rw [bfs_genL h hg]
  exact ends_1 (by decide) (cv_oI bk2 (fun _ => rfl))
theorem invs_gt' {t : List (List Int)} {x : Int} (hx : inE t x) : gt (invs t) x = iv t x := by
  obtain ⟨n, hn, rfl⟩ := inE_nat hx
  unfold gt iv
  rw [List.getD_eq_getElem?_getD, Int.toNat_natCast, invs_at hn]; rfl
theorem invs_in {t : List (List Int)} (h : grp t = true) {x : Int} (hx : inE t x) : inE t (gt (invs t) x) := by rw [invs_gt' hx]; exact (iv_spec h hx).1
/-- A conjugate, a commutator. -/
def cj (t : List (List Int)) (h : Int) (x : Nat) : Int := pd t (pd t x h) (gt (invs t) x)
def cm (t : List (List Int)) (x y : Int) : Int := pd t (pd t (pd t x y) (gt (invs t) x)) (gt (invs t) y)
theorem cj_in {t : List (List Int)} (h : grp t = true) {y : Int} (hy : inE t y) {x : Nat} (hx : x < t.length) : inE t (cj t y x) :=
  (grp_Grp h).p ((grp_Grp h).p (inE_of hx) hy) (invs_in h (inE_of hx))
theorem cm_in {t : List (List Int)} (h : grp t = true) {x y : Int} (hx : inE t x) (hy : inE t y) : inE t (cm t x y) :=
  (grp_Grp h).p ((grp_Grp h).p ((grp_Grp h).p hx hy) (invs_in h hx)) (invs_in h hy)
def clo1 (t : List (List Int)) (l : List Int) (h : Int) : List Int := addsN (cj t h) (List.range t.length) l
def der1 (t : List (List Int)) (sub : List Int) (l : List Int) (x : Int) : List Int := addsN (cm t x) sub l
theorem okL_clo1 {t : List (List Int)} (h : grp t = true) {l : List Int} (hl : okL t l) {y : Int} (hy : inE t y) : okL t (clo1 t l y) := okL_adds hl fun x hx => cj_in h hy (List.mem_range.1 hx)
theorem okL_der1 {t : List (List Int)} (h : grp t = true) {sub l : List Int} (hs : ∀ x ∈ sub, inE t x) (hl : okL t l) {y : Int} (hy : inE t y) : okL t (der1 t sub l y) := okL_adds hl fun x hx => cm_in h hy (hs x hx)
theorem okL_fold {t : List (List Int)} {f : List Int → Int → List Int} : ∀ {xs l : List Int}, (∀ l x, x ∈ xs → okL t l → okL t (f l x)) → okL t l → okL t (xs.foldl f l)
  | [], l, _, h => h
  | x :: xs, l, hf, h => okL_fold (xs := xs) (fun l y hy => hf l y (List.mem_cons_of_mem _ hy)) (hf l x (List.mem_cons_self ..) h)
theorem foldl_take_succ {α β : Type} {f : β → α → β} {xs : List α} {j : Nat} (h : j < xs.length) (b : β) : (xs.take (j + 1)).foldl f b = f ((xs.take j).foldl f b) xs[j] := by rw [take_succ' h, List.foldl_append]; rfl
-- the closure's inner loop

theorem clo_l2 {Γ : Ctx} (t : List (List Int)) (h : grp t = true) (gens : List Int) (I : Nat) (y : Int) (hy : inE t y) (l0 : List Int) (ok : okL t l0) (g : Nat) (gb g1 g2 : Gen) :
    W Γ C.group.group.closure.L2 (mk 63 [(2, .ptr 0 gb 0), (5, .own 1 g1), (6, .own 2 g2), (8, eN .i64 y), (15, LI false gens), (16, eN .i64 gens.length), (17, eN .i64 I), (23, eN .i64 t.length), (24, eN .i64 0)] [gB gb t, gI g1 t.length l0, gL g2 l0, none] g)
      (fun e s => e = .exit 2 ∧ ∃ g g2, s = mk 63 [(2, .ptr 0 gb 0), (5, .own 1 g1), (6, .own 2 g2), (15, LI false gens), (16, eN .i64 gens.length), (17, eN .i64 I)] [gB gb t, gI g1 t.length (clo1 t l0 y), gL g2 (clo1 t l0 y), none] g) := by
  have G := grp_Grp h
  have hn := G.n
  refine W.for (n := t.length) (fun j st => ∃ g g2, st = mk 63 [(2, .ptr 0 gb 0), (5, .own 1 g1), (6, .own 2 g2), (8, eN .i64 y), (15, LI false gens), (16, eN .i64 gens.length), (17, eN .i64 I), (23, eN .i64 t.length), (24, eN .i64 j)] [gB gb t, gI g1 t.length (addsN (cj t y) (List.range j) l0), gL g2 (addsN (cj t y) (List.range j) l0), none] g) ?_ ?_ (Nat.zero_le _) ⟨_, _, rfl⟩
  · rintro _ ⟨g, g2, rfl⟩
    refine W.go C.group.group.closure.l2.eq_1 ?_
    simp only [↓cnd_t, ↓cnd_f, ↓cnf_t, ↓cnf_f, VS, astep, Nat.reduceEqDiff, Nat.reduceAdd, Nat.reduceMul, Nat.reduceLT, Nat.reduceLeDiff, Nat.reduceBEq, Int.reduceLT, reduceCtorEq, decide_true, decide_false, Int.lt_irrefl]
    exact ⟨_, _, rfl⟩
  · rintro j hj ih _ ⟨g, g2, rfl⟩
    refine W.go C.group.group.closure.l2.eq_1 ?_
    have hlt := dlt (show (j : Int) < t.length by omega)
    have hw := wr1 (i := j) (by omega)
    have hokj : okL t (addsN (cj t y) (List.range j) l0) := okL_adds ok fun x hx => cj_in h hy (by have := List.mem_range.1 hx; omega)
    have hlen := okL_len hokj
    have hc := cj_in h hy hj
    have hji := inE_of hj
    have hxy := G.p hji hy
    have hiv := invs_in h hji
    have hnext : addsN (cj t y) (List.range (j + 1)) l0 = addNew (addsN (cj t y) (List.range j) l0) (cj t y j) := by rw [List.range_succ, addsN_snoc]
    rw [hnext] at ih
    generalize addsN (cj t y) (List.range j) l0 = l at ih hokj hlen ⊢
    have r1 := (sq_row G.s hji.1 hji.2).1
    have r2 := (sq_row G.s hxy.1 hxy.2).1
    simp only [↓cnd_t, ↓cnd_f, ↓cnf_t, ↓cnf_f, VS, astep, Nat.reduceEqDiff, Nat.reduceAdd, Nat.reduceMul, Nat.reduceLT, Nat.reduceLeDiff, Nat.reduceBEq, Int.reduceLT, reduceCtorEq, decide_true, decide_false, Int.lt_irrefl, hlt, hw, List.length_cons, List.length_nil]
    have e1 : gt (gt t (j : Int)) y = pd t j y := rfl
    have e2 : gt (gt t (pd t j y)) (gt (invs t) (j : Int)) = cj t y j := rfl
    simp only [e1, e2, r1, r2, invs_len, inSet_len, inSet_gt hc.1 hc.2]
    have hcn : (cj t y j).toNat < t.length := by obtain ⟨a, b⟩ := hc; omega
    refine ⟨hji, hy, hxy, hji, hiv, hc, hcn, fun hd => ⟨hc, hcn, ⟨by omega, by omega⟩, ?_⟩, fun hd => ?_⟩
    · have := ih _ ⟨g + 1 + 1 + 1 + 1 + 1 + 1 + 1, (g + 1 + 1 + 1 + 1 + 1, 3), rfl⟩
      rw [addNew_out (of_decide_eq_false hd)] at this
      unfold gL eR at this
      rw [List.length_append] at this
      rw [inSet_put hc.1 hc.2]
      exact this
    · have := ih _ ⟨g + 1 + 1 + 1 + 1 + 1, g2, rfl⟩
      rw [addNew_in (of_decide_eq_true hd)] at this
      exact this
theorem clo_l0 {Γ : Ctx} (t : List (List Int)) (h : grp t = true) (gens : List Int) (hg : ∀ x ∈ gens, inE t x) (hgl : gens.length < 2 ^ 46) (g : Nat) (gb g1 g2 : Gen) :
    W Γ C.group.group.closure.L0 (mk 63 [(2, .ptr 0 gb 0), (5, .own 1 g1), (6, .own 2 g2), (15, LI false gens), (16, eN .i64 gens.length), (17, eN .i64 0)] [gB gb t, gI g1 t.length [], gL g2 [], none] g)
      (fun e s => e = .exit 0 ∧ ∃ g g2, s = mk 63 [(2, .ptr 0 gb 0), (6, .own 2 g2)] [gB gb t, none, gL g2 (gens.foldl (clo1 t) []), none] g) := by
  refine W.for (n := gens.length) (fun j st => ∃ g g2, st = mk 63 [(2, .ptr 0 gb 0), (5, .own 1 g1), (6, .own 2 g2), (15, LI false gens), (16, eN .i64 gens.length), (17, eN .i64 j)] [gB gb t, gI g1 t.length ((gens.take j).foldl (clo1 t) []), gL g2 ((gens.take j).foldl (clo1 t) []), none] g) ?_ ?_ (Nat.zero_le _) ⟨_, _, rfl⟩
  · rintro _ ⟨g, g2, rfl⟩
    refine W.go C.group.group.closure.l0.eq_1 ?_
    rw [List.take_length]
    simp only [↓cnd_t, ↓cnd_f, ↓cnf_t, ↓cnf_f, VS, astep, Nat.reduceEqDiff, Nat.reduceAdd, Nat.reduceMul, Nat.reduceLT, Nat.reduceLeDiff, Nat.reduceBEq, Int.reduceLT, reduceCtorEq, decide_true, decide_false, Int.lt_irrefl]
    exact ⟨_, _, rfl⟩
  · rintro j hj ih _ ⟨g, g2, rfl⟩
    refine W.go C.group.group.closure.l0.eq_1 ?_
    have hlt := dlt (show (j : Int) < gens.length by omega)
    have hw := wr1 (i := j) (by omega)
    have hgj : gt gens j = gens[j] := gt_nat hj
    have ok : okL t ((gens.take j).foldl (clo1 t) []) := okL_fold (fun l x hx hl => okL_clo1 h hl (hg x (List.mem_of_mem_take hx))) ⟨by simp, by simp⟩
    simp only [↓cnd_t, ↓cnd_f, ↓cnf_t, ↓cnf_f, VS, astep, Nat.reduceEqDiff, Nat.reduceAdd, Nat.reduceMul, Nat.reduceLT, Nat.reduceLeDiff, Nat.reduceBEq, Int.reduceLT, reduceCtorEq, decide_true, decide_false, Int.lt_irrefl, hlt, List.length_cons, List.length_nil]
    simp only [hgj]
    refine ⟨by omega, ?_⟩
    refine W.mono (clo_l2 t h gens j gens[j] (hg _ (List.getElem_mem hj)) _ ok _ gb g1 g2) ?_
    rintro _ _ ⟨rfl, g, g2, rfl⟩
    simp only [↓cnd_t, ↓cnd_f, ↓cnf_t, ↓cnf_f, VS, astep, Nat.reduceEqDiff, Nat.reduceAdd, Nat.reduceMul, Nat.reduceLT, Nat.reduceLeDiff, Nat.reduceBEq, Int.reduceLT, reduceCtorEq, decide_true, decide_false, Int.lt_irrefl, hw]
    exact ih _ ⟨_, _, by rw [foldl_take_succ hj]⟩
def R_clo (args : List AV) (r : AV) : Prop := ∃ (t : List (List Int)) (gens : List Int), grp t = true ∧ (∀ x ∈ gens, inE t x) ∧ gens.length < 2 ^ 46 ∧ args = [gA_ t, LI false gens] ∧ r = LI true (genL t (gens.foldl (clo1 t) []))
theorem lv3 {a b c : AV} : loadv 3 true [a, b, c] = some (.agg [a, b, c]) := rfl
theorem cv_gB {st : St} {O L : Bool} (t : List (List Int)) (b : Bool) : Cv st O L (.agg [LLI false false t, eN .i64 (ident t), LI b (invs t)]) (gA_ t) := cv_agg (Cc.cons (cv_LLI ff ff) (Cc.cons (.lit _) (Cc.cons (cv_LI ff) Cc.nil)))
theorem fk_closure : Fk prog ⟨F_group_group_closure, false, R_clo⟩ := C.group.group.closure.fk (es := [⟨F_group_group_generate, false, R_gen⟩]) ⟨fk_gen, trivial⟩ <| by
  rintro _ _ ⟨t, gens, h, hg, hgl, rfl, rfl⟩
  have G := grp_Grp h
  have hn := G.n
  have ok : okL t (gens.foldl (clo1 t) []) := okL_fold (fun l x hx hl => okL_clo1 h hl (hg x hx)) ⟨by simp, by simp⟩
  have hlen := okL_len ok
  refine ⟨Run.of C.group.group.closure.top.eq_1 (by simp) ?_, fun _ => fr_LI _⟩
  simp only [↓cnd_t, ↓cnd_f, ↓cnf_t, ↓cnf_f, VS, astep, Nat.reduceEqDiff, Nat.reduceAdd, Nat.reduceMul, Nat.reduceLT, Nat.reduceLeDiff, Nat.reduceBEq, Int.reduceLT, reduceCtorEq, decide_true, decide_false, Int.lt_irrefl, enum, C.group.group.closure.rs, gA_, List.length_cons, List.length_nil]
  simp only [Int.toNat_natCast, ← inSet_nil]
  refine ⟨by omega, ?_⟩
  refine W.mono (clo_l0 t h gens hg hgl _ (0, 0) (1, 3) (2, 0)) ?_
  rintro _ _ ⟨rfl, g, g2, rfl⟩
  simp only [↓cnd_t, ↓cnd_f, ↓cnf_t, ↓cnf_f, VS, astep, Nat.reduceEqDiff, Nat.reduceAdd, Nat.reduceMul, Nat.reduceLT, Nat.reduceLeDiff, Nat.reduceBEq, Int.reduceLT, reduceCtorEq, decide_true, decide_false, Int.lt_irrefl, List.length_cons, List.length_nil, lv3]
  refine YC.of (R := R_gen) (l := false) rfl [gA_ t, LI false (gens.foldl (clo1 t) [])] _ ⟨t, _, h, ok.2, by omega, rfl, rfl⟩ (.cons (cv_gB t false) (.cons (cv_oI bk2 ff) .nil)) ?_
  simp only [↓cnd_t, ↓cnd_f, ↓cnf_t, ↓cnf_f, VS, astep, Nat.reduceEqDiff, Nat.reduceAdd, Nat.reduceMul, Nat.reduceLT, Nat.reduceLeDiff, Nat.reduceBEq, Int.reduceLT, reduceCtorEq, decide_true, decide_false, Int.lt_irrefl]
  exact ends_1 (by decide) (cv_LI fun _ => ⟨rfl, rfl⟩)
-- commutators

theorem der_l2 {Γ : Ctx} (t : List (List Int)) (h : grp t = true) (sub : List Int) (hs : ∀ x ∈ sub, inE t x) (hsl : sub.length < 2 ^ 46) (I : Nat) (y : Int) (hy : inE t y) (l0 : List Int) (ok : okL t l0) (g : Nat) (gb g1 g2 : Gen) :
    W Γ C.group.group.derived.L2 (mk 75 [(1, LI false sub), (2, .ptr 0 gb 0), (5, .own 1 g1), (6, .own 2 g2), (8, eN .i64 y), (16, LI false sub), (17, eN .i64 sub.length), (18, eN .i64 I), (22, LI false sub), (23, eN .i64 sub.length), (24, eN .i64 0)] [gB gb t, gI g1 t.length l0, gL g2 l0, none] g)
      (fun e s => e = .exit 2 ∧ ∃ g g2, s = mk 75 [(1, LI false sub), (2, .ptr 0 gb 0), (5, .own 1 g1), (6, .own 2 g2), (16, LI false sub), (17, eN .i64 sub.length), (18, eN .i64 I)] [gB gb t, gI g1 t.length (der1 t sub l0 y), gL g2 (der1 t sub l0 y), none] g) := by
  have G := grp_Grp h
  have hn := G.n
  refine W.for (n := sub.length) (fun j st => ∃ g g2, st = mk 75 [(1, LI false sub), (2, .ptr 0 gb 0), (5, .own 1 g1), (6, .own 2 g2), (8, eN .i64 y), (16, LI false sub), (17, eN .i64 sub.length), (18, eN .i64 I), (22, LI false sub), (23, eN .i64 sub.length), (24, eN .i64 j)] [gB gb t, gI g1 t.length (addsN (cm t y) (sub.take j) l0), gL g2 (addsN (cm t y) (sub.take j) l0), none] g) ?_ ?_ (Nat.zero_le _) ⟨_, _, rfl⟩
  · rintro _ ⟨g, g2, rfl⟩
    refine W.go C.group.group.derived.l2.eq_1 ?_
    rw [List.take_length]
    simp only [↓cnd_t, ↓cnd_f, ↓cnf_t, ↓cnf_f, VS, astep, Nat.reduceEqDiff, Nat.reduceAdd, Nat.reduceMul, Nat.reduceLT, Nat.reduceLeDiff, Nat.reduceBEq, Int.reduceLT, reduceCtorEq, decide_true, decide_false, Int.lt_irrefl]
    exact ⟨_, _, rfl⟩
  · rintro j hj ih _ ⟨g, g2, rfl⟩
    refine W.go C.group.group.derived.l2.eq_1 ?_
    have hlt := dlt (show (j : Int) < sub.length by omega)
    have hw := wr1 (i := j) (by omega)
    have hgj : gt sub j = sub[j] := gt_nat hj
    have hz := hs _ (List.getElem_mem hj)
    have hokj : okL t (addsN (cm t y) (sub.take j) l0) := okL_adds ok fun x hx => cm_in h hy (hs x (List.mem_of_mem_take hx))
    have hlen := okL_len hokj
    have hc := cm_in h hy hz
    have hxy := G.p hy hz
    have hi1 := invs_in h hy
    have hi2 := invs_in h hz
    have hx3 := G.p hxy hi1
    have hnext : addsN (cm t y) (sub.take (j + 1)) l0 = addNew (addsN (cm t y) (sub.take j) l0) (cm t y sub[j]) := by rw [take_succ' hj, addsN_snoc]
    rw [hnext] at ih
    generalize addsN (cm t y) (sub.take j) l0 = l at ih hokj hlen ⊢
    have r1 := (sq_row G.s hy.1 hy.2).1
    have r2 := (sq_row G.s hxy.1 hxy.2).1
    have r3 := (sq_row G.s hx3.1 hx3.2).1
    simp only [↓cnd_t, ↓cnd_f, ↓cnf_t, ↓cnf_f, VS, astep, Nat.reduceEqDiff, Nat.reduceAdd, Nat.reduceMul, Nat.reduceLT, Nat.reduceLeDiff, Nat.reduceBEq, Int.reduceLT, reduceCtorEq, decide_true, decide_false, Int.lt_irrefl, hlt, hw, List.length_cons, List.length_nil]
    have e1 : gt (gt t y) sub[j] = pd t y sub[j] := rfl
    have e2 : gt (gt t (pd t y sub[j])) (gt (invs t) y) = pd t (pd t y sub[j]) (gt (invs t) y) := rfl
    have e3 : gt (gt t (pd t (pd t y sub[j]) (gt (invs t) y))) (gt (invs t) sub[j]) = cm t y sub[j] := rfl
    simp only [hgj, e1, e2, e3, r1, r2, r3, invs_len, inSet_len, inSet_gt hc.1 hc.2]
    have hcn : (cm t y sub[j]).toNat < t.length := by obtain ⟨a, b⟩ := hc; omega
    refine ⟨by omega, hy, hz, hxy, hy, hi1, hx3, hz, hi2, hc, hcn, fun hd => ⟨hc, hcn, ⟨by omega, by omega⟩, ?_⟩, fun hd => ?_⟩
    · have := ih _ ⟨g + 1 + 1 + 1 + 1 + 1 + 1 + 1, (g + 1 + 1 + 1 + 1 + 1, 3), rfl⟩
      rw [addNew_out (of_decide_eq_false hd)] at this
      unfold gL eR at this
      rw [List.length_append] at this
      rw [inSet_put hc.1 hc.2]
      exact this
    · have := ih _ ⟨g + 1 + 1 + 1 + 1 + 1, g2, rfl⟩
      rw [addNew_in (of_decide_eq_true hd)] at this
      exact this
theorem der_l0 {Γ : Ctx} (t : List (List Int)) (h : grp t = true) (sub : List Int) (hs : ∀ x ∈ sub, inE t x) (hsl : sub.length < 2 ^ 46) (g : Nat) (gb g1 g2 : Gen) :
    W Γ C.group.group.derived.L0 (mk 75 [(1, LI false sub), (2, .ptr 0 gb 0), (5, .own 1 g1), (6, .own 2 g2), (16, LI false sub), (17, eN .i64 sub.length), (18, eN .i64 0)] [gB gb t, gI g1 t.length [], gL g2 [], none] g)
      (fun e s => e = .exit 0 ∧ ∃ g g2, s = mk 75 [(2, .ptr 0 gb 0), (6, .own 2 g2)] [gB gb t, none, gL g2 (sub.foldl (der1 t sub) []), none] g) := by
  refine W.for (n := sub.length) (fun j st => ∃ g g2, st = mk 75 [(1, LI false sub), (2, .ptr 0 gb 0), (5, .own 1 g1), (6, .own 2 g2), (16, LI false sub), (17, eN .i64 sub.length), (18, eN .i64 j)] [gB gb t, gI g1 t.length ((sub.take j).foldl (der1 t sub) []), gL g2 ((sub.take j).foldl (der1 t sub) []), none] g) ?_ ?_ (Nat.zero_le _) ⟨_, _, rfl⟩
  · rintro _ ⟨g, g2, rfl⟩
    refine W.go C.group.group.derived.l0.eq_1 ?_
    rw [List.take_length]
    simp only [↓cnd_t, ↓cnd_f, ↓cnf_t, ↓cnf_f, VS, astep, Nat.reduceEqDiff, Nat.reduceAdd, Nat.reduceMul, Nat.reduceLT, Nat.reduceLeDiff, Nat.reduceBEq, Int.reduceLT, reduceCtorEq, decide_true, decide_false, Int.lt_irrefl]
    exact ⟨_, _, rfl⟩
  · rintro j hj ih _ ⟨g, g2, rfl⟩
    refine W.go C.group.group.derived.l0.eq_1 ?_
    have hlt := dlt (show (j : Int) < sub.length by omega)
    have hw := wr1 (i := j) (by omega)
    have hgj : gt sub j = sub[j] := gt_nat hj
    have ok : okL t ((sub.take j).foldl (der1 t sub) []) := okL_fold (fun l x hx hl => okL_der1 h hs hl (hs x (List.mem_of_mem_take hx))) ⟨by simp, by simp⟩
    simp only [↓cnd_t, ↓cnd_f, ↓cnf_t, ↓cnf_f, VS, astep, Nat.reduceEqDiff, Nat.reduceAdd, Nat.reduceMul, Nat.reduceLT, Nat.reduceLeDiff, Nat.reduceBEq, Int.reduceLT, reduceCtorEq, decide_true, decide_false, Int.lt_irrefl, hlt]
    simp only [hgj]
    refine ⟨by omega, ?_⟩
    refine W.mono (der_l2 t h sub hs hsl j sub[j] (hs _ (List.getElem_mem hj)) _ ok _ gb g1 g2) ?_
    rintro _ _ ⟨rfl, g, g2, rfl⟩
    simp only [↓cnd_t, ↓cnd_f, ↓cnf_t, ↓cnf_f, VS, astep, Nat.reduceEqDiff, Nat.reduceAdd, Nat.reduceMul, Nat.reduceLT, Nat.reduceLeDiff, Nat.reduceBEq, Int.reduceLT, reduceCtorEq, decide_true, decide_false, Int.lt_irrefl, hw]
    exact ih _ ⟨_, _, by rw [foldl_take_succ hj]⟩
def derL (t : List (List Int)) (sub : List Int) : List Int := sub.foldl (der1 t sub) []
def R_der (args : List AV) (r : AV) : Prop := ∃ (t : List (List Int)) (sub : List Int), grp t = true ∧ (∀ x ∈ sub, inE t x) ∧ sub.length < 2 ^ 46 ∧ args = [gA_ t, LI false sub] ∧ r = LI true (genL t (derL t sub))
theorem fk_derived : Fk prog ⟨F_group_group_derived, false, R_der⟩ := C.group.group.derived.fk (es := [⟨F_group_group_generate, false, R_gen⟩]) ⟨fk_gen, trivial⟩ <| by
  rintro _ _ ⟨t, sub, h, hs, hsl, rfl, rfl⟩
  have G := grp_Grp h
  have hn := G.n
  have ok : okL t (sub.foldl (der1 t sub) []) := okL_fold (fun l x hx hl => okL_der1 h hs hl (hs x hx)) ⟨by simp, by simp⟩
  have hlen := okL_len ok
  refine ⟨Run.of C.group.group.derived.top.eq_1 (by simp) ?_, fun _ => fr_LI _⟩
  simp only [↓cnd_t, ↓cnd_f, ↓cnf_t, ↓cnf_f, VS, astep, Nat.reduceEqDiff, Nat.reduceAdd, Nat.reduceMul, Nat.reduceLT, Nat.reduceLeDiff, Nat.reduceBEq, Int.reduceLT, reduceCtorEq, decide_true, decide_false, Int.lt_irrefl, enum, C.group.group.derived.rs, gA_, List.length_cons, List.length_nil]
  simp only [Int.toNat_natCast, ← inSet_nil]
  refine ⟨by omega, ?_⟩
  refine W.mono (der_l0 t h sub hs hsl _ (0, 0) (1, 3) (2, 0)) ?_
  rintro _ _ ⟨rfl, g, g2, rfl⟩
  simp only [↓cnd_t, ↓cnd_f, ↓cnf_t, ↓cnf_f, VS, astep, Nat.reduceEqDiff, Nat.reduceAdd, Nat.reduceMul, Nat.reduceLT, Nat.reduceLeDiff, Nat.reduceBEq, Int.reduceLT, reduceCtorEq, decide_true, decide_false, Int.lt_irrefl, List.length_cons, List.length_nil, lv3]
  refine YC.of (R := R_gen) (l := false) rfl [gA_ t, LI false (sub.foldl (der1 t sub) [])] _ ⟨t, _, h, ok.2, by omega, rfl, rfl⟩ (.cons (cv_gB t false) (.cons (cv_oI bk2 ff) .nil)) ?_
  simp only [↓cnd_t, ↓cnd_f, ↓cnf_t, ↓cnf_f, VS, astep, Nat.reduceEqDiff, Nat.reduceAdd, Nat.reduceMul, Nat.reduceLT, Nat.reduceLeDiff, Nat.reduceBEq, Int.reduceLT, reduceCtorEq, decide_true, decide_false, Int.lt_irrefl]
  exact ends_1 (by decide) (cv_LI fun _ => ⟨rfl, rfl⟩)
def R_all (args : List AV) (r : AV) : Prop := ∃ t : List (List Int), t.length ≤ 400 ∧ args = [gA_ t] ∧ r = LI true (iota t.length)
theorem fk_all : Fk prog ⟨F_group_group_all, false, R_all⟩ := C.group.group.all.fk (es := [⟨F_partition_Discrete, false, R_iota⟩]) ⟨fk_pDiscrete, trivial⟩ <| by
  rintro _ _ ⟨t, hn, rfl, rfl⟩
  refine ⟨Run.of C.group.group.all.top.eq_1 (by simp) ?_, fun _ => fr_LI _⟩
  simp only [↓cnd_t, ↓cnd_f, ↓cnf_t, ↓cnf_f, VS, astep, Nat.reduceEqDiff, Nat.reduceAdd, Nat.reduceMul, Nat.reduceLT, Nat.reduceLeDiff, Nat.reduceBEq, Int.reduceLT, reduceCtorEq, decide_true, decide_false, Int.lt_irrefl, enum, C.group.group.all.rs, gA_, List.length_cons, List.length_nil]
  refine YC.of (R := R_iota) rfl [eN .i64 t.length] _ ⟨t.length, by omega, rfl, rfl⟩ (.cons (.lit _) .nil) ?_
  simp only [↓cnd_t, ↓cnd_f, ↓cnf_t, ↓cnf_f, VS, astep, Nat.reduceEqDiff, Nat.reduceAdd, Nat.reduceMul, Nat.reduceLT, Nat.reduceLeDiff, Nat.reduceBEq, Int.reduceLT, reduceCtorEq, decide_true, decide_false, Int.lt_irrefl]
  exact ends_1 (by decide) (cv_LI fun _ => ⟨rfl, rfl⟩)
theorem iota_in {t : List (List Int)} : ∀ x ∈ iota t.length, inE t x := by
  intro x hx
  simp only [iota, List.mem_map, List.mem_range] at hx
  obtain ⟨i, hi, rfl⟩ := hx
  exact inE_of hi
def R_Der (args : List AV) (r : AV) : Prop := ∃ t : List (List Int), t.length < 2 ^ 62 ∧ args = [LLI false false t] ∧ r = LI true (if grp t then genL t (derL t (iota t.length)) else [])
theorem fk_Derived : Fk prog ⟨F_group_Derived, false, R_Der⟩ := C.group.Derived.fk (es := [⟨F_group_of, true, R_of⟩, ⟨F_group_group_all, false, R_all⟩, ⟨F_group_group_derived, false, R_der⟩]) ⟨fk_gof, fk_all, fk_derived, trivial⟩ <| by
  rintro _ _ ⟨t, hl, rfl, rfl⟩
  refine ⟨Run.of C.group.Derived.top.eq_1 (by simp) ?_, fun _ => fr_LI _⟩
  simp only [↓cnd_t, ↓cnd_f, ↓cnf_t, ↓cnf_f, VS, astep, Nat.reduceEqDiff, Nat.reduceAdd, Nat.reduceMul, Nat.reduceLT, Nat.reduceLeDiff, Nat.reduceBEq, Int.reduceLT, reduceCtorEq, decide_true, decide_false, Int.lt_irrefl, enum, C.group.Derived.rs]
  refine YC.of (R := R_of) rfl [LLI false false t] _ ⟨t, hl, rfl, rfl⟩ (.cons (cv_LLI ff ff) .nil) ?_
  cases hg : grp t with
  | false =>
    simp only [↓cnd_t, ↓cnd_f, ↓cnf_t, ↓cnf_f, VS, astep, Nat.reduceEqDiff, Nat.reduceAdd, Nat.reduceMul, Nat.reduceLT, Nat.reduceLeDiff, Nat.reduceBEq, Int.reduceLT, reduceCtorEq, decide_true, decide_false, Int.lt_irrefl]
    refine ⟨gvL_ok t, ends_1 (by decide) ?_⟩
    exact cv_LI (l := []) fun _ => ⟨rfl, rfl⟩
  | true =>
    have hn := (grp_Grp hg).n
    simp only [↓cnd_t, ↓cnd_f, ↓cnf_t, ↓cnf_f, VS, astep, Nat.reduceEqDiff, Nat.reduceAdd, Nat.reduceMul, Nat.reduceLT, Nat.reduceLeDiff, Nat.reduceBEq, Int.reduceLT, reduceCtorEq, decide_true, decide_false, Int.lt_irrefl, gvL_t hg, List.length_cons, List.length_nil, List.all_cons, List.all_nil, lv3]
    refine YCD.of (R := R_all) rfl [gA_ t] _ ⟨t, hn, rfl, rfl⟩ (.cons (cv_gB t true) .nil) ?_
    simp only [↓cnd_t, ↓cnd_f, ↓cnf_t, ↓cnf_f, VS, astep, Nat.reduceEqDiff, Nat.reduceAdd, Nat.reduceMul, Nat.reduceLT, Nat.reduceLeDiff, Nat.reduceBEq, Int.reduceLT, reduceCtorEq, decide_true, decide_false, Int.lt_irrefl]
    refine YCD.of (R := R_der) rfl [gA_ t, LI false (iota t.length)] _ ⟨t, _, hg, iota_in, by rw [iota_len]; omega, rfl, rfl⟩ (.cons (cv_gB t true) (.cons (cv_LI ff) .nil)) ?_
    simp only [↓cnd_t, ↓cnd_f, ↓cnf_t, ↓cnf_f, VS, astep, Nat.reduceEqDiff, Nat.reduceAdd, Nat.reduceMul, Nat.reduceLT, Nat.reduceLeDiff, Nat.reduceBEq, Int.reduceLT, reduceCtorEq, decide_true, decide_false, Int.lt_irrefl]
    exact ends_1 (by decide) (cv_LI fun _ => ⟨rfl, rfl⟩)
def cloF (t : List (List Int)) (gens : List Int) : List Int := gens.foldl (clo1 t) []
open Classical in

noncomputable def cloR (t : List (List Int)) (gens : List Int) : List Int := if grp t = true ∧ ∀ x ∈ gens, inE t x then genL t (cloF t gens) else []
def R_Clo (args : List AV) (r : AV) : Prop := ∃ (t : List (List Int)) (gens : List Int), t.length < 2 ^ 62 ∧ gens.length < 2 ^ 46 ∧ args = [LLI false false t, LI false gens] ∧ r = LI true (cloR t gens)
theorem fk_Closure : Fk prog ⟨F_group_Closure, false, R_Clo⟩ := C.group.Closure.fk (es := [⟨F_group_of, true, R_of⟩, ⟨F_group_group_closure, false, R_clo⟩]) ⟨fk_gof, fk_closure, trivial⟩ <| by
  rintro _ _ ⟨t, gens, hl, hgl, rfl, rfl⟩
  refine ⟨Run.of C.group.Closure.top.eq_1 (by simp) ?_, fun _ => fr_LI _⟩
  simp only [↓cnd_t, ↓cnd_f, ↓cnf_t, ↓cnf_f, VS, astep, Nat.reduceEqDiff, Nat.reduceAdd, Nat.reduceMul, Nat.reduceLT, Nat.reduceLeDiff, Nat.reduceBEq, Int.reduceLT, reduceCtorEq, decide_true, decide_false, Int.lt_irrefl, enum, C.group.Closure.rs]
  refine YC.of (R := R_of) rfl [LLI false false t] _ ⟨t, hl, rfl, rfl⟩ (.cons (cv_LLI ff ff) .nil) ?_
  cases hg : grp t with
  | false =>
    simp only [↓cnd_t, ↓cnd_f, ↓cnf_t, ↓cnf_f, VS, astep, Nat.reduceEqDiff, Nat.reduceAdd, Nat.reduceMul, Nat.reduceLT, Nat.reduceLeDiff, Nat.reduceBEq, Int.reduceLT, reduceCtorEq, decide_true, decide_false, Int.lt_irrefl]
    refine ⟨gvL_ok t, ends_1 (by decide) ?_⟩
    rw [cloR, if_neg (by simp [hg])]; exact cv_LI (l := []) fun _ => ⟨rfl, rfl⟩
  | true =>
    simp only [↓cnd_t, ↓cnd_f, ↓cnf_t, ↓cnf_f, VS, astep, Nat.reduceEqDiff, Nat.reduceAdd, Nat.reduceMul, Nat.reduceLT, Nat.reduceLeDiff, Nat.reduceBEq, Int.reduceLT, reduceCtorEq, decide_true, decide_false, Int.lt_irrefl, gvL_t hg, List.length_cons, List.length_nil, List.all_cons, List.all_nil]
    refine W.for (n := gens.length) (fun i st => ∃ g gg, (∀ x ∈ gens.take i, inE t x) ∧ st = mk 34 [(0, LLI false false t), (1, LI false gens), (5, .ptr 0 gg 0), (16, LI false gens), (17, eN .i64 gens.length), (18, eN .i64 i)] [some (.box gg Tgroup_group [LLI false false t, eN .i64 (ident t), LI true (invs t)])] g) ?_ ?_ (Nat.zero_le _) ⟨_, _, by simp, rfl⟩
    · rintro _ ⟨g, gg, hno, rfl⟩
      rw [List.take_length] at hno
      refine W.go C.group.Closure.l0.eq_1 ?_
      simp only [↓cnd_t, ↓cnd_f, ↓cnf_t, ↓cnf_f, VS, astep, Nat.reduceEqDiff, Nat.reduceAdd, Nat.reduceMul, Nat.reduceLT, Nat.reduceLeDiff, Nat.reduceBEq, Int.reduceLT, reduceCtorEq, decide_true, decide_false, Int.lt_irrefl, List.length_cons, List.length_nil, lv3]
      refine YC.of (R := R_clo) rfl [gA_ t, LI false gens] _ ⟨t, gens, hg, hno, hgl, rfl, rfl⟩ (.cons (cv_gB t true) (.cons (cv_LI ff) .nil)) ?_
      simp only [↓cnd_t, ↓cnd_f, ↓cnf_t, ↓cnf_f, VS, astep, Nat.reduceEqDiff, Nat.reduceAdd, Nat.reduceMul, Nat.reduceLT, Nat.reduceLeDiff, Nat.reduceBEq, Int.reduceLT, reduceCtorEq, decide_true, decide_false, Int.lt_irrefl]
      refine ends_1 (by decide) ?_
      rw [cloR, if_pos ⟨hg, hno⟩]
      exact cv_LI fun _ => ⟨rfl, rfl⟩
    · rintro i hi ih _ ⟨g, gg, hno, rfl⟩
      refine W.go C.group.Closure.l0.eq_1 ?_
      have hlt := dlt (show (i : Int) < gens.length by omega)
      have hw := wr1 (i := i) (by omega)
      have hgi : gt gens i = gens[i] := gt_nat hi
      have bad : ¬ inE t gens[i] → cloR t gens = [] := fun hb => by
        rw [cloR, if_neg fun h => hb (h.2 _ (List.getElem_mem hi))]
      simp only [↓cnd_t, ↓cnd_f, ↓cnf_t, ↓cnf_f, VS, astep, Nat.reduceEqDiff, Nat.reduceAdd, Nat.reduceMul, Nat.reduceLT, Nat.reduceLeDiff, Nat.reduceBEq, Int.reduceLT, reduceCtorEq, decide_true, decide_false, Int.lt_irrefl, hlt, hw]
      simp only [hgi]
      refine ⟨by omega, fun h1 => ⟨fun h2 => ends_1 (by decide) ?_, fun h2 => ih _ ⟨_, _, fun x hx => ?_, rfl⟩⟩, fun h1 => ends_1 (by decide) ?_⟩
      · rw [bad (fun e => by have := e.2; omega)]; exact cv_LI (l := []) fun _ => ⟨rfl, rfl⟩
      · rw [take_succ' hi, List.mem_append, List.mem_singleton] at hx
        rcases hx with hx | rfl
        · exact hno x hx
        · exact ⟨by omega, by omega⟩
      · rw [bad (fun e => by have := e.1; omega)]; exact cv_LI (l := []) fun _ => ⟨rfl, rfl⟩
end Go.Proofs.YtbpajecjaoefaaaGreat.V

/- The reference's closures and commutators. -/





namespace Go.Proofs.YtbpajecjaoefaaaGreat.V

open Go Go.RowKit Go.Proofs.Tryz

def R_rAll (args : List AV) (r : AV) : Prop := ∃ t : List (List Int), t.length ≤ 400 ∧ args = [LLI false false t] ∧ r = LI true (iota t.length)
theorem fk_rAll : Fk prog ⟨F_ref16_All, false, R_rAll⟩ := C.ref16.All.fk (es := [⟨F_ref03_Discrete, false, R_iota⟩]) ⟨fk_rDiscrete, trivial⟩ <| by
  rintro _ _ ⟨t, hl, rfl, rfl⟩
  refine ⟨Run.of C.ref16.All.top.eq_1 (by simp) ?_, fun _ => fr_LI _⟩
  simp only [↓cnd_t, ↓cnd_f, ↓cnf_t, ↓cnf_f, VS, astep, Nat.reduceEqDiff, Nat.reduceAdd, Nat.reduceMul, Nat.reduceLT, Nat.reduceLeDiff, Nat.reduceBEq, Int.reduceLT, reduceCtorEq, decide_true, decide_false, Int.lt_irrefl, enum, C.ref16.All.rs]
  refine YC.of (R := R_iota) rfl [eN .i64 t.length] _ ⟨t.length, by omega, rfl, rfl⟩ (.cons (.lit _) .nil) ?_
  simp only [↓cnd_t, ↓cnd_f, ↓cnf_t, ↓cnf_f, VS, astep, Nat.reduceEqDiff, Nat.reduceAdd, Nat.reduceMul, Nat.reduceLT, Nat.reduceLeDiff, Nat.reduceBEq, Int.reduceLT, reduceCtorEq, decide_true, decide_false, Int.lt_irrefl]
  exact ends_1 (by decide) (cv_LI fun _ => ⟨rfl, rfl⟩)
theorem ivr_invs {t : List (List Int)} (h : grp t = true) {x : Int} (hx : inE t x) : ivr t x = gt (invs t) x := by rw [ivr_eq h hx, invs_gt' hx]
theorem rclo_l2 {Γ : Ctx} (t : List (List Int)) (h : grp t = true) (gens : List Int) (hg : ∀ x ∈ gens, inE t x) (hgl : gens.length < 2 ^ 30) (x : Nat) (hx : x < t.length) (l0 : List Int) (hl0 : l0.length < 2 ^ 40) (g : Nat) (g0 : Gen) :
    W Γ C.ref16.Closure.L2 (mk 48 [(0, LLI false false t), (1, LI false gens), (5, .own 0 g0), (6, eN .i64 x), (7, eN .i64 (gt (invs t) (x : Int))), (14, eN .i64 t.length), (15, eN .i64 x), (21, LI false gens), (22, eN .i64 gens.length), (23, eN .i64 0)] [gL g0 l0, none] g)
      (fun e s => e = .exit 2 ∧ ∃ g g0, s = mk 48 [(0, LLI false false t), (1, LI false gens), (5, .own 0 g0), (14, eN .i64 t.length), (15, eN .i64 x)] [gL g0 (l0 ++ gens.map fun y => cj t y x), none] g) := by
  have G := grp_Grp h
  have hn := G.n
  refine W.for (n := gens.length) (fun j st => ∃ g g0, st = mk 48 [(0, LLI false false t), (1, LI false gens), (5, .own 0 g0), (6, eN .i64 x), (7, eN .i64 (gt (invs t) (x : Int))), (14, eN .i64 t.length), (15, eN .i64 x), (21, LI false gens), (22, eN .i64 gens.length), (23, eN .i64 j)] [gL g0 (l0 ++ (gens.take j).map fun y => cj t y x), none] g) ?_ ?_ (Nat.zero_le _) ⟨g, g0, by rw [List.take_zero, List.map_nil, List.append_nil]; rfl⟩
  · rintro _ ⟨g, g0, rfl⟩
    refine W.go C.ref16.Closure.l2.eq_1 ?_
    rw [List.take_length]
    simp only [↓cnd_t, ↓cnd_f, ↓cnf_t, ↓cnf_f, VS, astep, Nat.reduceEqDiff, Nat.reduceAdd, Nat.reduceMul, Nat.reduceLT, Nat.reduceLeDiff, Nat.reduceBEq, Int.reduceLT, reduceCtorEq, decide_true, decide_false, Int.lt_irrefl]
    exact ⟨_, _, rfl⟩
  · rintro j hj ih _ ⟨g, g0, rfl⟩
    refine W.go C.ref16.Closure.l2.eq_1 ?_
    have hlt := dlt (show (j : Int) < gens.length by omega)
    have hw := wr1 (i := j) (by omega)
    have hgj : gt gens j = gens[j] := gt_nat hj
    have hxi := inE_of hx
    have hy := hg _ (List.getElem_mem hj)
    have hxy := G.p hxi hy
    have hiv := invs_in h hxi
    have hlen : (l0 ++ (gens.take j).map fun y => cj t y x).length < 2 ^ 41 := by simp; omega
    have hnext : (l0 ++ (gens.take (j + 1)).map fun y => cj t y x) = (l0 ++ (gens.take j).map fun y => cj t y x) ++ [cj t gens[j] x] := by rw [take_succ' hj, List.map_append, List.append_assoc]; rfl
    rw [hnext] at ih
    generalize (l0 ++ (gens.take j).map fun y => cj t y x) = l at ih hlen ⊢
    have r1 := (sq_row G.s hxi.1 hxi.2).1
    have r2 := (sq_row G.s hxy.1 hxy.2).1
    simp only [↓cnd_t, ↓cnd_f, ↓cnf_t, ↓cnf_f, VS, astep, Nat.reduceEqDiff, Nat.reduceAdd, Nat.reduceMul, Nat.reduceLT, Nat.reduceLeDiff, Nat.reduceBEq, Int.reduceLT, reduceCtorEq, decide_true, decide_false, Int.lt_irrefl, hlt, hw, List.length_cons, List.length_nil]
    simp only [hgj]
    have e1 : gt (gt t (x : Int)) gens[j] = pd t x gens[j] := rfl
    have e2 : gt (gt t (pd t x gens[j])) (gt (invs t) (x : Int)) = cj t gens[j] x := rfl
    simp only [e1, e2, r1, r2]
    refine ⟨by omega, hxi, hy, hxy, hiv, ⟨by omega, by omega⟩, ?_⟩
    refine ih _ ⟨g + 1 + 1 + 1 + 1, (g + 1 + 1, 15), ?_⟩
    unfold gL eR
    rw [List.length_append]
    rfl
/-- The lists whose closure the reference takes. -/
def rcl (t : List (List Int)) (gens : List Int) (n : Nat) : List Int := ident t :: (List.range n).flatMap fun x => gens.map fun y => cj t y x
theorem rcl_succ (t : List (List Int)) (gens : List Int) (n : Nat) : rcl t gens (n + 1) = rcl t gens n ++ gens.map fun y => cj t y n := by simp [rcl, List.range_succ]
theorem rcl_len (t : List (List Int)) (gens : List Int) (n : Nat) : (rcl t gens n).length = n * gens.length + 1 := by
  induction n with
  | zero => simp [rcl]
  | succ n ih => rw [rcl_succ, List.length_append, ih, List.length_map, Nat.succ_mul]; omega
theorem rcl_mem {t : List (List Int)} {gens : List Int} {n : Nat} {z : Int} : z ∈ rcl t gens n ↔ z = ident t ∨ ∃ x < n, ∃ y ∈ gens, cj t y x = z := by
  simp [rcl, List.mem_flatMap]
theorem rcl_in {t : List (List Int)} (h : grp t = true) {gens : List Int} (hg : ∀ x ∈ gens, inE t x) {z : Int} (hz : z ∈ rcl t gens t.length) : inE t z := by
  rcases rcl_mem.1 hz with rfl | ⟨x, hx, y, hy, rfl⟩
  · exact (grp_Grp h).ee
  · exact cj_in h (hg y hy) hx
def R_rClo (args : List AV) (r : AV) : Prop := ∃ (t : List (List Int)) (gens : List Int), grp t = true ∧ gens.length < 2 ^ 30 ∧ (∀ x ∈ gens, inE t x) ∧ args = [LLI false false t, LI false gens] ∧ r = LI true (memP (RGen t (· ∈ rcl t gens t.length)) t.length)
theorem fk_rClosure : Fk prog ⟨F_ref16_Closure, false, R_rClo⟩ := C.ref16.Closure.fk (es := [⟨F_ref14_Identity, false, R_ident14⟩, ⟨F_ref16_Inverse, false, R_rInv⟩, ⟨F_ref14_Generated, false, R_rGenerated⟩]) ⟨fk_Identity, fk_rInverse, fk_Generated, trivial⟩ <| by
  rintro _ _ ⟨t, gens, h, hgl, hg, rfl, rfl⟩
  have G := grp_Grp h
  have hn := G.n
  refine ⟨Run.of C.ref16.Closure.top.eq_1 (by simp) ?_, fun _ => fr_LI _⟩
  simp only [↓cnd_t, ↓cnd_f, ↓cnf_t, ↓cnf_f, VS, astep, Nat.reduceEqDiff, Nat.reduceAdd, Nat.reduceMul, Nat.reduceLT, Nat.reduceLeDiff, Nat.reduceBEq, Int.reduceLT, reduceCtorEq, decide_true, decide_false, Int.lt_irrefl, enum, C.ref16.Closure.rs]
  refine YC.of (R := R_ident14) rfl [LLI false false t] _ ⟨t, G.s, hn, rfl, rfl⟩ (.cons (cv_LLI ff ff) .nil) ?_
  simp only [↓cnd_t, ↓cnd_f, ↓cnf_t, ↓cnf_f, VS, astep, Nat.reduceEqDiff, Nat.reduceAdd, Nat.reduceMul, Nat.reduceLT, Nat.reduceLeDiff, Nat.reduceBEq, Int.reduceLT, reduceCtorEq, decide_true, decide_false, Int.lt_irrefl]
  have hlen : ∀ n ≤ t.length, (rcl t gens n).length < 2 ^ 39 := fun n hle => by
    rw [rcl_len]
    have : n * gens.length ≤ 400 * gens.length := Nat.mul_le_mul_right _ (by omega)
    omega
  refine W.for (n := t.length) (fun i st => ∃ g gg, st = mk 48 [(0, LLI false false t), (1, LI false gens), (5, .own 0 gg), (14, eN .i64 t.length), (15, eN .i64 i)] [gL gg (rcl t gens i), none] g) ?_ ?_ (Nat.zero_le _) ⟨_, _, rfl⟩
  · rintro _ ⟨g, gg, rfl⟩
    refine W.go C.ref16.Closure.l0.eq_1 ?_
    simp only [↓cnd_t, ↓cnd_f, ↓cnf_t, ↓cnf_f, VS, astep, Nat.reduceEqDiff, Nat.reduceAdd, Nat.reduceMul, Nat.reduceLT, Nat.reduceLeDiff, Nat.reduceBEq, Int.reduceLT, reduceCtorEq, decide_true, decide_false, Int.lt_irrefl]
    refine YC.of (R := R_rGenerated) (l := false) rfl [LLI false false t, LI false (rcl t gens t.length)] _ ⟨t, _, G.s, hn, by have := hlen _ (Nat.le_refl _); omega, fun x hx => rcl_in h hg hx, rfl, rfl⟩ (.cons (cv_LLI ff ff) (.cons (cv_oI bk0 ff) .nil)) ?_
    simp only [↓cnd_t, ↓cnd_f, ↓cnf_t, ↓cnf_f, VS, astep, Nat.reduceEqDiff, Nat.reduceAdd, Nat.reduceMul, Nat.reduceLT, Nat.reduceLeDiff, Nat.reduceBEq, Int.reduceLT, reduceCtorEq, decide_true, decide_false, Int.lt_irrefl]
    exact ends_1 (by decide) (cv_LI fun _ => ⟨rfl, rfl⟩)
  · rintro i hi ih _ ⟨g, gg, rfl⟩
    refine W.go C.ref16.Closure.l0.eq_1 ?_
    have hlt := dlt (show (i : Int) < t.length by omega)
    have hw := wr1 (i := i) (by omega)
    simp only [↓cnd_t, ↓cnd_f, ↓cnf_t, ↓cnf_f, VS, astep, Nat.reduceEqDiff, Nat.reduceAdd, Nat.reduceMul, Nat.reduceLT, Nat.reduceLeDiff, Nat.reduceBEq, Int.reduceLT, reduceCtorEq, decide_true, decide_false, Int.lt_irrefl, hlt]
    refine YC.of (R := R_rInv) rfl [LLI false false t, eN .i64 i] _ ⟨t, _, G.s, hn, inE_of hi, rfl, rfl⟩ (.cons (cv_LLI ff ff) (.cons (.lit _) .nil)) ?_
    rw [ivr_invs h (inE_of hi)]
    simp only [↓cnd_t, ↓cnd_f, ↓cnf_t, ↓cnf_f, VS, astep, Nat.reduceEqDiff, Nat.reduceAdd, Nat.reduceMul, Nat.reduceLT, Nat.reduceLeDiff, Nat.reduceBEq, Int.reduceLT, reduceCtorEq, decide_true, decide_false, Int.lt_irrefl]
    refine W.mono (rclo_l2 t h gens hg hgl i hi (rcl t gens i) (by have := hlen i (by omega); omega) _ gg) ?_
    rintro _ _ ⟨rfl, g, g0, rfl⟩
    simp only [↓cnd_t, ↓cnd_f, ↓cnf_t, ↓cnf_f, VS, astep, Nat.reduceEqDiff, Nat.reduceAdd, Nat.reduceMul, Nat.reduceLT, Nat.reduceLeDiff, Nat.reduceBEq, Int.reduceLT, reduceCtorEq, decide_true, decide_false, Int.lt_irrefl, hw]
    exact ih _ ⟨_, _, by rw [rcl_succ]⟩
/-- More of the neutral element makes nothing new. -/
theorem genP_e {t : List (List Int)} {e : Int} (G : Grp t e) {S S' : Int → Prop} (hS : ∀ x, S x → inE t x) (h : ∀ x, S' x ↔ x = e ∨ S x) {x : Int} : GenP t e S' x ↔ GenP t e S x := by
  constructor
  · intro hx
    induction hx with
    | one => exact .one
    | mul _ hy ih =>
      rcases (h _).1 hy with rfl | hy
      · rw [G.r _ (genP_inE G hS ih)]; exact ih
      · exact .mul ih hy
  · exact genP_mono fun y hy => (h y).2 (.inr hy)
theorem memP_congr {P Q : Int → Prop} {n : Nat} (h : ∀ x, P x ↔ Q x) : memP P n = memP Q n := by rw [show P = Q from funext fun x => propext (h x)]
theorem fold_clo_mem {t : List (List Int)} {z : Int} : ∀ {gens l : List Int}, z ∈ gens.foldl (clo1 t) l ↔ z ∈ l ∨ ∃ x < t.length, ∃ y ∈ gens, cj t y x = z
  | [], l => by simp
  | g :: gens, l => by
    rw [List.foldl_cons, fold_clo_mem, clo1, addsN_mem]
    simp only [List.mem_range, List.mem_cons]
    constructor
    · rintro ((h | ⟨x, hx, h⟩) | ⟨x, hx, y, hy, h⟩)
      · exact .inl h
      · exact .inr ⟨x, hx, g, .inl rfl, h⟩
      · exact .inr ⟨x, hx, y, .inr hy, h⟩
    · rintro (h | ⟨x, hx, y, rfl | hy, h⟩)
      · exact .inl (.inl h)
      · exact .inl (.inr ⟨x, hx, h⟩)
      · exact .inr ⟨x, hx, y, hy, h⟩
theorem cloR_eq {t : List (List Int)} (h : grp t = true) {gens : List Int} (hg : ∀ x ∈ gens, inE t x) : memP (RGen t (· ∈ rcl t gens t.length)) t.length = cloR t gens := by
  have G := grp_Grp h
  rw [cloR, if_pos ⟨h, hg⟩, genL]
  refine memP_congr fun x => ?_
  rw [RGen_iff G (fun y hy => rcl_in h hg hy) (rcl_mem.2 (.inl rfl))]
  have hm : ∀ y, y ∈ cloF t gens ↔ ∃ x < t.length, ∃ z ∈ gens, cj t z x = y := fun y => by rw [cloF, fold_clo_mem]; simp
  refine genP_e G (fun y hy => ?_) fun y => by rw [rcl_mem, hm]
  obtain ⟨x, hx, z, hz, rfl⟩ := (hm y).1 hy
  exact cj_in h (hg z hz) hx
-- commutators

theorem cm_eq {t : List (List Int)} (h : grp t = true) {x y : Int} (hx : inE t x) (hy : inE t y) : pd t (pd t x y) (pd t (gt (invs t) x) (gt (invs t) y)) = cm t x y := by
  have G := grp_Grp h
  exact (G.a _ _ _ (G.p hx hy) (invs_in h hx) (invs_in h hy)).symm
theorem rder_l2 {es : List Ent} (t : List (List Int)) (h : grp t = true) (sub : List Int) (hs : ∀ x ∈ sub, inE t x) (hsl : sub.length < 2 ^ 19) (i : Nat) (x : Int) (hx : inE t x) (l0 : List Int) (hl0 : l0.length < 2 ^ 40) (g : Nat) (g0 : Gen) :
    W (ctx (⟨F_ref16_Inverse, false, R_rInv⟩ :: es) []) C.ref16.Derived.L2 (mk 53 [(0, LLI false false t), (1, LI false sub), (5, .own 0 g0), (7, eN .i64 x), (10, LI false sub), (11, eN .i64 sub.length), (12, eN .i64 i), (16, LI false sub), (17, eN .i64 sub.length), (18, eN .i64 0)] [gL g0 l0, none] g)
      (fun e s => e = .exit 2 ∧ ∃ g g0, s = mk 53 [(0, LLI false false t), (1, LI false sub), (5, .own 0 g0), (10, LI false sub), (11, eN .i64 sub.length), (12, eN .i64 i)] [gL g0 (l0 ++ sub.map (cm t x)), none] g) := by
  have G := grp_Grp h
  have hn := G.n
  refine W.for (n := sub.length) (fun j st => ∃ g g0, st = mk 53 [(0, LLI false false t), (1, LI false sub), (5, .own 0 g0), (7, eN .i64 x), (10, LI false sub), (11, eN .i64 sub.length), (12, eN .i64 i), (16, LI false sub), (17, eN .i64 sub.length), (18, eN .i64 j)] [gL g0 (l0 ++ (sub.take j).map (cm t x)), none] g) ?_ ?_ (Nat.zero_le _) ⟨g, g0, by rw [List.take_zero, List.map_nil, List.append_nil]; rfl⟩
  · rintro _ ⟨g, g0, rfl⟩
    refine W.go C.ref16.Derived.l2.eq_1 ?_
    rw [List.take_length]
    simp only [↓cnd_t, ↓cnd_f, ↓cnf_t, ↓cnf_f, VS, astep, Nat.reduceEqDiff, Nat.reduceAdd, Nat.reduceMul, Nat.reduceLT, Nat.reduceLeDiff, Nat.reduceBEq, Int.reduceLT, reduceCtorEq, decide_true, decide_false, Int.lt_irrefl]
    exact ⟨_, _, rfl⟩
  · rintro j hj ih _ ⟨g, g0, rfl⟩
    refine W.go C.ref16.Derived.l2.eq_1 ?_
    have hlt := dlt (show (j : Int) < sub.length by omega)
    have hw := wr1 (i := j) (by omega)
    have hgj : gt sub j = sub[j] := gt_nat hj
    have hy := hs _ (List.getElem_mem hj)
    have hxy := G.p hx hy
    have hix := invs_in h hx
    have hiy := invs_in h hy
    have hii := G.p hix hiy
    have hlen : (l0 ++ (sub.take j).map (cm t x)).length < 2 ^ 41 := by simp; omega
    have hnext : (l0 ++ (sub.take (j + 1)).map (cm t x)) = (l0 ++ (sub.take j).map (cm t x)) ++ [cm t x sub[j]] := by rw [take_succ' hj, List.map_append, List.append_assoc]; rfl
    rw [hnext] at ih
    generalize (l0 ++ (sub.take j).map (cm t x)) = l at ih hlen ⊢
    have r1 := (sq_row G.s hx.1 hx.2).1
    have r2 := (sq_row G.s hxy.1 hxy.2).1
    have r3 := (sq_row G.s hix.1 hix.2).1
    simp only [↓cnd_t, ↓cnd_f, ↓cnf_t, ↓cnf_f, VS, astep, Nat.reduceEqDiff, Nat.reduceAdd, Nat.reduceMul, Nat.reduceLT, Nat.reduceLeDiff, Nat.reduceBEq, Int.reduceLT, reduceCtorEq, decide_true, decide_false, Int.lt_irrefl, hlt, hw, List.length_cons, List.length_nil]
    simp only [hgj]
    have e1 : gt (gt t x) sub[j] = pd t x sub[j] := rfl
    simp only [e1, r1]
    refine ⟨by omega, hx, hy, hxy, ?_⟩
    refine YCD.of (R := R_rInv) rfl [LLI false false t, eN .i64 x] _ ⟨t, _, G.s, hn, hx, rfl, rfl⟩ (.cons (cv_LLI ff ff) (.cons (.lit _) .nil)) ?_
    rw [ivr_invs h hx]
    simp only [↓cnd_t, ↓cnd_f, ↓cnf_t, ↓cnf_f, VS, astep, Nat.reduceEqDiff, Nat.reduceAdd, Nat.reduceMul, Nat.reduceLT, Nat.reduceLeDiff, Nat.reduceBEq, Int.reduceLT, reduceCtorEq, decide_true, decide_false, Int.lt_irrefl]
    refine ⟨hix, ?_⟩
    refine YCD.of (R := R_rInv) rfl [LLI false false t, eN .i64 sub[j]] _ ⟨t, _, G.s, hn, hy, rfl, rfl⟩ (.cons (cv_LLI ff ff) (.cons (.lit _) .nil)) ?_
    rw [ivr_invs h hy]
    simp only [↓cnd_t, ↓cnd_f, ↓cnf_t, ↓cnf_f, VS, astep, Nat.reduceEqDiff, Nat.reduceAdd, Nat.reduceMul, Nat.reduceLT, Nat.reduceLeDiff, Nat.reduceBEq, Int.reduceLT, reduceCtorEq, decide_true, decide_false, Int.lt_irrefl, List.length_cons, List.length_nil]
    have e2 : gt (gt t (gt (invs t) x)) (gt (invs t) sub[j]) = pd t (gt (invs t) x) (gt (invs t) sub[j]) := rfl
    have e3 : gt (gt t (pd t x sub[j])) (pd t (gt (invs t) x) (gt (invs t) sub[j])) = cm t x sub[j] := cm_eq h hx hy
    simp only [e2, e3, r2, r3]
    refine ⟨hiy, hii, ⟨by omega, by omega⟩, ?_⟩
    refine ih _ ⟨g + 1 + 1 + 1 + 1, (g + 1 + 1, 25), ?_⟩
    unfold gL eR
    rw [List.length_append, hw]
    rfl
def rdl (t : List (List Int)) (sub : List Int) (n : Nat) : List Int := (sub.take n).flatMap fun x => sub.map (cm t x)
theorem rdl_succ (t : List (List Int)) (sub : List Int) {n : Nat} (h : n < sub.length) : rdl t sub (n + 1) = rdl t sub n ++ sub.map (cm t sub[n]) := by unfold rdl; rw [take_succ' h, List.flatMap_append]; simp
theorem rdl_len (t : List (List Int)) (sub : List Int) (n : Nat) (h : n ≤ sub.length) : (rdl t sub n).length = n * sub.length := by
  induction n with
  | zero => simp [rdl]
  | succ n ih => rw [rdl_succ t sub h, List.length_append, ih (by omega), List.length_map, Nat.succ_mul]
theorem rdl_mem {t : List (List Int)} {sub : List Int} {z : Int} : z ∈ rdl t sub sub.length ↔ ∃ x ∈ sub, ∃ y ∈ sub, cm t x y = z := by
  simp [rdl, List.mem_flatMap]
theorem rdl_in {t : List (List Int)} (h : grp t = true) {sub : List Int} (hs : ∀ x ∈ sub, inE t x) {z : Int} (hz : z ∈ rdl t sub sub.length) : inE t z := by
  obtain ⟨x, hx, y, hy, rfl⟩ := rdl_mem.1 hz
  exact cm_in h (hs x hx) (hs y hy)
def R_rDer (args : List AV) (r : AV) : Prop := ∃ (t : List (List Int)) (sub : List Int), grp t = true ∧ sub.length < 2 ^ 19 ∧ (∀ x ∈ sub, inE t x) ∧ args = [LLI false false t, LI false sub] ∧ r = LI true (memP (RGen t (· ∈ rdl t sub sub.length)) t.length)
theorem fk_rDerived : Fk prog ⟨F_ref16_Derived, false, R_rDer⟩ := C.ref16.Derived.fk (es := [⟨F_ref16_Inverse, false, R_rInv⟩, ⟨F_ref14_Generated, false, R_rGenerated⟩]) ⟨fk_rInverse, fk_Generated, trivial⟩ <| by
  rintro _ _ ⟨t, sub, h, hsl, hs, rfl, rfl⟩
  have G := grp_Grp h
  have hn := G.n
  refine ⟨Run.of C.ref16.Derived.top.eq_1 (by simp) ?_, fun _ => fr_LI _⟩
  simp only [↓cnd_t, ↓cnd_f, ↓cnf_t, ↓cnf_f, VS, astep, Nat.reduceEqDiff, Nat.reduceAdd, Nat.reduceMul, Nat.reduceLT, Nat.reduceLeDiff, Nat.reduceBEq, Int.reduceLT, reduceCtorEq, decide_true, decide_false, Int.lt_irrefl, enum, C.ref16.Derived.rs]
  have hlen : ∀ n ≤ sub.length, (rdl t sub n).length < 2 ^ 39 := fun n hle => by
    rw [rdl_len t sub n hle]
    have : n * sub.length ≤ 2 ^ 19 * 2 ^ 19 := Nat.mul_le_mul (by omega) (by omega)
    omega
  refine W.for (n := sub.length) (fun i st => ∃ g gg, st = mk 53 [(0, LLI false false t), (1, LI false sub), (5, .own 0 gg), (10, LI false sub), (11, eN .i64 sub.length), (12, eN .i64 i)] [gL gg (rdl t sub i), none] g) ?_ ?_ (Nat.zero_le _) ⟨_, _, rfl⟩
  · rintro _ ⟨g, gg, rfl⟩
    refine W.go C.ref16.Derived.l0.eq_1 ?_
    simp only [↓cnd_t, ↓cnd_f, ↓cnf_t, ↓cnf_f, VS, astep, Nat.reduceEqDiff, Nat.reduceAdd, Nat.reduceMul, Nat.reduceLT, Nat.reduceLeDiff, Nat.reduceBEq, Int.reduceLT, reduceCtorEq, decide_true, decide_false, Int.lt_irrefl]
    refine YC.of (R := R_rGenerated) (l := false) rfl [LLI false false t, LI false (rdl t sub sub.length)] _ ⟨t, _, G.s, hn, by have := hlen _ (Nat.le_refl _); omega, fun x hx => rdl_in h hs hx, rfl, rfl⟩ (.cons (cv_LLI ff ff) (.cons (cv_oI bk0 ff) .nil)) ?_
    simp only [↓cnd_t, ↓cnd_f, ↓cnf_t, ↓cnf_f, VS, astep, Nat.reduceEqDiff, Nat.reduceAdd, Nat.reduceMul, Nat.reduceLT, Nat.reduceLeDiff, Nat.reduceBEq, Int.reduceLT, reduceCtorEq, decide_true, decide_false, Int.lt_irrefl]
    exact ends_1 (by decide) (cv_LI fun _ => ⟨rfl, rfl⟩)
  · rintro i hi ih _ ⟨g, gg, rfl⟩
    refine W.go C.ref16.Derived.l0.eq_1 ?_
    have hlt := dlt (show (i : Int) < sub.length by omega)
    have hw := wr1 (i := i) (by omega)
    have hgi : gt sub i = sub[i] := gt_nat hi
    simp only [↓cnd_t, ↓cnd_f, ↓cnf_t, ↓cnf_f, VS, astep, Nat.reduceEqDiff, Nat.reduceAdd, Nat.reduceMul, Nat.reduceLT, Nat.reduceLeDiff, Nat.reduceBEq, Int.reduceLT, reduceCtorEq, decide_true, decide_false, Int.lt_irrefl, hlt]
    simp only [hgi]
    refine ⟨by omega, ?_⟩
    refine W.mono (rder_l2 t h sub hs hsl i sub[i] (hs _ (List.getElem_mem hi)) (rdl t sub i) (by have := hlen i (by omega); omega) _ gg) ?_
    rintro _ _ ⟨rfl, g, g0, rfl⟩
    simp only [↓cnd_t, ↓cnd_f, ↓cnf_t, ↓cnf_f, VS, astep, Nat.reduceEqDiff, Nat.reduceAdd, Nat.reduceMul, Nat.reduceLT, Nat.reduceLeDiff, Nat.reduceBEq, Int.reduceLT, reduceCtorEq, decide_true, decide_false, Int.lt_irrefl, hw]
    exact ih _ ⟨_, _, by rw [rdl_succ t sub hi]⟩
theorem fold_der_mem {t : List (List Int)} {z : Int} {sub : List Int} : ∀ {xs l : List Int}, z ∈ xs.foldl (der1 t sub) l ↔ z ∈ l ∨ ∃ x ∈ xs, ∃ y ∈ sub, cm t x y = z
  | [], l => by simp
  | g :: xs, l => by
    rw [List.foldl_cons, fold_der_mem, der1, addsN_mem]
    simp only [List.mem_cons]
    constructor
    · rintro ((h | ⟨y, hy, h⟩) | ⟨x, hx, y, hy, h⟩)
      · exact .inl h
      · exact .inr ⟨g, .inl rfl, y, hy, h⟩
      · exact .inr ⟨x, .inr hx, y, hy, h⟩
    · rintro (h | ⟨x, rfl | hx, y, hy, h⟩)
      · exact .inl (.inl h)
      · exact .inl (.inr ⟨y, hy, h⟩)
      · exact .inr ⟨x, hx, y, hy, h⟩
theorem cm_e {t : List (List Int)} (h : grp t = true) : cm t (ident t) (ident t) = ident t := by
  have G := grp_Grp h
  have he := G.ee
  have hi := invs_in h he
  have h1 : gt (invs t) (ident t) = ident t := by
    have := (iv_spec h he).2.1
    rw [← invs_gt' he, G.l _ hi] at this
    exact this
  rw [cm, h1, G.r _ he, G.r _ he, G.r _ he]
theorem derL_eq {t : List (List Int)} (h : grp t = true) {sub : List Int} (hs : ∀ x ∈ sub, inE t x) (he : ident t ∈ sub) : memP (RGen t (· ∈ rdl t sub sub.length)) t.length = genL t (derL t sub) := by
  have G := grp_Grp h
  rw [genL]
  refine memP_congr fun x => ?_
  rw [RGen_iff G (fun y hy => rdl_in h hs hy) (rdl_mem.2 ⟨_, he, _, he, cm_e h⟩)]
  have hm : ∀ y, y ∈ derL t sub ↔ y ∈ rdl t sub sub.length := fun y => by rw [rdl_mem, derL, fold_der_mem]; simp
  exact ⟨genP_mono fun y hy => (hm y).2 hy, genP_mono fun y hy => (hm y).1 hy⟩
end Go.Proofs.YtbpajecjaoefaaaGreat.V

/- GroupClosures. -/




namespace Go.Proofs.YtbpajecjaoefaaaGreat.V

open Go Go.RowKit Go.Proofs.Tryz

def R_LGC (args : List AV) (r : AV) : Prop := ∃ (t : List (List Int)) (gens : List Int), t.length < 2 ^ 45 ∧ gens.length < 2 ^ 29 ∧ args = [LLI false false t, LI false gens] ∧ r = eB true
theorem memP_len (P : Int → Prop) (n : Nat) : (memP P n).length ≤ n := by
  unfold memP
  rw [List.length_map]
  exact Nat.le_trans (List.length_filter_le ..) (by simp)
theorem fk_GroupClosures (fk_awake : Fk prog ⟨F_law16_awake, false, fun a r => a = [] ∧ r = eB true⟩) : Fk prog ⟨4, false, R_LGC⟩ := C.law16.GroupClosures.fk (es := [⟨F_law16_large, false, R_large⟩, ⟨F_law16_awake, false, fun a r => a = [] ∧ r = eB true⟩, ⟨F_group_Closure, false, R_Clo⟩, ⟨F_group_Derived, false, R_Der⟩, ⟨F_ref16_IsGroup, false, R_rgrp⟩, ⟨F_ref16_All, false, R_rAll⟩, ⟨F_ref16_Derived, false, R_rDer⟩, ⟨F_ref03_Same, false, R_Same⟩, ⟨F_ref14_In, false, R_In⟩, ⟨F_ref16_Closure, false, R_rClo⟩]) ⟨fk_large, fk_awake, fk_Closure, fk_Derived, fk_rIsGroup, fk_rAll, fk_rDerived, fk_Same, fk_In, fk_rClosure, trivial⟩ <| by
  rintro _ _ ⟨t, gens, hl, hgl, rfl, rfl⟩
  refine ⟨Run.of C.law16.GroupClosures.top.eq_1 (by simp) ?_, fun _ => .lit _⟩
  simp only [↓cnd_t, ↓cnd_f, ↓cnf_t, ↓cnf_f, VS, astep, Nat.reduceEqDiff, Nat.reduceAdd, Nat.reduceMul, Nat.reduceLT, Nat.reduceLeDiff, Nat.reduceBEq, Int.reduceLT, reduceCtorEq, decide_true, decide_false, Int.lt_irrefl, enum, C.law16.GroupClosures.rs]
  refine YC.of (R := R_large) rfl [LLI false false t, eN .i64 20] _ ⟨t, 20, by omega, rfl, rfl⟩ (.cons (cv_LLI ff ff) (.cons (.lit _) .nil)) ?_
  simp only [↓cnd_t, ↓cnd_f, ↓cnf_t, ↓cnf_f, VS, astep, Nat.reduceEqDiff, Nat.reduceAdd, Nat.reduceMul, Nat.reduceLT, Nat.reduceLeDiff, Nat.reduceBEq, Int.reduceLT, reduceCtorEq, decide_true, decide_false, Int.lt_irrefl]
  have aw : ∀ {c : Cx} {st : St}, c.Γ F_law16_awake = some (false, fun a r => a = [] ∧ r = eB true) → Y c st (some (eB true, st.M)) → YC c st F_law16_awake [] := fun h k => YC.of (R := fun a r => a = [] ∧ r = eB true) h [] _ ⟨rfl, rfl⟩ .nil k
  refine ⟨fun _ => ?_, fun _ => ?_⟩
  · refine aw ?_ ?_
    · rfl
    simp only [↓cnd_t, ↓cnd_f, ↓cnf_t, ↓cnf_f, VS, astep, Nat.reduceEqDiff, Nat.reduceAdd, Nat.reduceMul, Nat.reduceLT, Nat.reduceLeDiff, Nat.reduceBEq, Int.reduceLT, reduceCtorEq, decide_true, decide_false, Int.lt_irrefl]
    exact ends_b (by decide) rfl rfl
  refine YC.of (R := R_Clo) rfl [LLI false false t, LI false gens] _ ⟨t, gens, by omega, by omega, rfl, rfl⟩ (.cons (cv_LLI ff ff) (.cons (cv_LI ff) .nil)) ?_
  simp only [↓cnd_t, ↓cnd_f, ↓cnf_t, ↓cnf_f, VS, astep, Nat.reduceEqDiff, Nat.reduceAdd, Nat.reduceMul, Nat.reduceLT, Nat.reduceLeDiff, Nat.reduceBEq, Int.reduceLT, reduceCtorEq, decide_true, decide_false, Int.lt_irrefl]
  refine YC.of (R := R_Der) rfl [LLI false false t] _ ⟨t, by omega, rfl, rfl⟩ (.cons (cv_LLI ff ff) .nil) ?_
  simp only [↓cnd_t, ↓cnd_f, ↓cnf_t, ↓cnf_f, VS, astep, Nat.reduceEqDiff, Nat.reduceAdd, Nat.reduceMul, Nat.reduceLT, Nat.reduceLeDiff, Nat.reduceBEq, Int.reduceLT, reduceCtorEq, decide_true, decide_false, Int.lt_irrefl]
  refine YC.of (R := R_rgrp) rfl [LLI false false t] _ ⟨t, by omega, rfl, rfl⟩ (.cons (cv_LLI ff ff) .nil) ?_
  cases hg : grp t with
  | false =>
    have e1 : cloR t gens = [] := by rw [cloR, if_neg (by simp [hg])]
    rw [e1, if_neg (by decide)]
    simp only [↓cnd_t, ↓cnd_f, ↓cnf_t, ↓cnf_f, VS, astep, Nat.reduceEqDiff, Nat.reduceAdd, Nat.reduceMul, Nat.reduceLT, Nat.reduceLeDiff, Nat.reduceBEq, Int.reduceLT, reduceCtorEq, decide_true, decide_false, Int.lt_irrefl, List.length_nil]
    refine ⟨fun _ => ⟨fun _ => aw ?_ ?_, fun h => absurd rfl h⟩, fun h => absurd rfl h⟩
    · rfl
    simp only [↓cnd_t, ↓cnd_f, ↓cnf_t, ↓cnf_f, VS, astep, Nat.reduceEqDiff, Nat.reduceAdd, Nat.reduceMul, Nat.reduceLT, Nat.reduceLeDiff, Nat.reduceBEq, Int.reduceLT, reduceCtorEq, decide_true, decide_false, Int.lt_irrefl]
    exact ends_b (by decide) rfl rfl
  | true =>
    have G := grp_Grp hg
    have hn := G.n
    rw [if_pos rfl]
    simp only [↓cnd_t, ↓cnd_f, ↓cnf_t, ↓cnf_f, VS, astep, Nat.reduceEqDiff, Nat.reduceAdd, Nat.reduceMul, Nat.reduceLT, Nat.reduceLeDiff, Nat.reduceBEq, Int.reduceLT, reduceCtorEq, decide_true, decide_false, Int.lt_irrefl]
    refine YC.of (R := R_rAll) rfl [LLI false false t] _ ⟨t, hn, rfl, rfl⟩ (.cons (cv_LLI ff ff) .nil) ?_
    simp only [↓cnd_t, ↓cnd_f, ↓cnf_t, ↓cnf_f, VS, astep, Nat.reduceEqDiff, Nat.reduceAdd, Nat.reduceMul, Nat.reduceLT, Nat.reduceLeDiff, Nat.reduceBEq, Int.reduceLT, reduceCtorEq, decide_true, decide_false, Int.lt_irrefl]
    refine YC.of (R := R_rDer) rfl [LLI false false t, LI false (iota t.length)] _ ⟨t, _, hg, by rw [iota_len]; omega, iota_in, rfl, rfl⟩ (.cons (cv_LLI ff ff) (.cons (cv_LI ff) .nil)) ?_
    simp only [↓cnd_t, ↓cnd_f, ↓cnf_t, ↓cnf_f, VS, astep, Nat.reduceEqDiff, Nat.reduceAdd, Nat.reduceMul, Nat.reduceLT, Nat.reduceLeDiff, Nat.reduceBEq, Int.reduceLT, reduceCtorEq, decide_true, decide_false, Int.lt_irrefl]
    have ie : ident t ∈ iota t.length := by
      obtain ⟨k, hk, e⟩ := inE_nat G.ee
      rw [e]; simp only [iota, List.mem_map, List.mem_range]
      exact ⟨k, hk, rfl⟩
    rw [derL_eq hg iota_in ie]
    refine YC.of (R := R_Same) rfl [LI false (genL t (derL t (iota t.length))), LI false (genL t (derL t (iota t.length)))] _ ⟨_, _, by have := memP_len (GenP t (ident t) (· ∈ derL t (iota t.length))) t.length; unfold genL; omega, rfl, rfl⟩ (.cons (cv_LI ff) (.cons (cv_LI ff) .nil)) ?_
    simp only [↓cnd_t, ↓cnd_f, ↓cnf_t, ↓cnf_f, VS, astep, Nat.reduceEqDiff, Nat.reduceAdd, Nat.reduceMul, Nat.reduceLT, Nat.reduceLeDiff, Nat.reduceBEq, Int.reduceLT, reduceCtorEq, decide_true, decide_false, Int.lt_irrefl]
    refine YC.of (R := R_In) rfl [LLI false false t, LI false gens] _ ⟨t, gens, by omega, by omega, rfl, rfl⟩ (.cons (cv_LLI ff ff) (.cons (cv_LI ff) .nil)) ?_
    have hin : inr t.length gens ↔ ∀ x ∈ gens, inE t x := Iff.rfl
    by_cases hx : ∀ x ∈ gens, inE t x
    · simp only [↓cnd_t, ↓cnd_f, ↓cnf_t, ↓cnf_f, VS, astep, Nat.reduceEqDiff, Nat.reduceAdd, Nat.reduceMul, Nat.reduceLT, Nat.reduceLeDiff, Nat.reduceBEq, Int.reduceLT, reduceCtorEq, decide_true, decide_false, Int.lt_irrefl, decide_eq_true (hin.2 hx)]
      refine YC.of (R := R_rClo) rfl [LLI false false t, LI false gens] _ ⟨t, gens, hg, by omega, hx, rfl, rfl⟩ (.cons (cv_LLI ff ff) (.cons (cv_LI ff) .nil)) ?_
      rw [cloR_eq hg hx]
      simp only [↓cnd_t, ↓cnd_f, ↓cnf_t, ↓cnf_f, VS, astep, Nat.reduceEqDiff, Nat.reduceAdd, Nat.reduceMul, Nat.reduceLT, Nat.reduceLeDiff, Nat.reduceBEq, Int.reduceLT, reduceCtorEq, decide_true, decide_false, Int.lt_irrefl]
      refine YC.of (R := R_Same) rfl [LI false (cloR t gens), LI false (cloR t gens)] _ ⟨_, _, by
        have := memP_len (GenP t (ident t) (· ∈ cloF t gens)) t.length
        rw [cloR, if_pos ⟨hg, hx⟩, genL]; omega, rfl, rfl⟩ (.cons (cv_LI ff) (.cons (cv_LI ff) .nil)) ?_
      simp only [↓cnd_t, ↓cnd_f, ↓cnf_t, ↓cnf_f, VS, astep, Nat.reduceEqDiff, Nat.reduceAdd, Nat.reduceMul, Nat.reduceLT, Nat.reduceLeDiff, Nat.reduceBEq, Int.reduceLT, reduceCtorEq, decide_true, decide_false, Int.lt_irrefl]
      refine aw ?_ ?_
      · rfl
      simp only [↓cnd_t, ↓cnd_f, ↓cnf_t, ↓cnf_f, VS, astep, Nat.reduceEqDiff, Nat.reduceAdd, Nat.reduceMul, Nat.reduceLT, Nat.reduceLeDiff, Nat.reduceBEq, Int.reduceLT, reduceCtorEq, decide_true, decide_false, Int.lt_irrefl]
      exact ends_b (by decide) rfl rfl
    · have e1 : cloR t gens = [] := by rw [cloR, if_neg (fun h => hx h.2)]
      simp only [↓cnd_t, ↓cnd_f, ↓cnf_t, ↓cnf_f, VS, astep, Nat.reduceEqDiff, Nat.reduceAdd, Nat.reduceMul, Nat.reduceLT, Nat.reduceLeDiff, Nat.reduceBEq, Int.reduceLT, reduceCtorEq, decide_true, decide_false, Int.lt_irrefl, decide_eq_false (fun h => hx (hin.1 h)), e1, List.length_nil]
      refine ⟨fun _ => aw ?_ ?_, fun h => absurd rfl h⟩
      · rfl
      simp only [↓cnd_t, ↓cnd_f, ↓cnf_t, ↓cnf_f, VS, astep, Nat.reduceEqDiff, Nat.reduceAdd, Nat.reduceMul, Nat.reduceLT, Nat.reduceLeDiff, Nat.reduceBEq, Int.reduceLT, reduceCtorEq, decide_true, decide_false, Int.lt_irrefl]
      exact ends_b (by decide) rfl rfl
end Go.Proofs.YtbpajecjaoefaaaGreat.V

/- awake, run. -/




namespace Go.Proofs.YtbpajecjaoefaaaGreat.V

open Go Go.RowKit Go.Sort Go.Proofs.Tryz

noncomputable def fe_inv : FE := ⟨F_group_inverses, false, fnRun [] [] 4000 C.group.inverses.top C.group.inverses.rs 100 1 false⟩
theorem ok_inv : Fk prog fe_inv.ent := C.group.inverses.fkS (es := ([]).map FE.ent) (ss := ([]).map SE.spe) trivial trivial (fun a r h => fnRun_run h)
noncomputable def fe_of : FE := ⟨F_group_of, true, fnRun [fe_Validate, fe_inv] [] 4000 C.group.of.top C.group.of.rs 22 1 true⟩
theorem ok_of : Fk prog fe_of.ent := C.group.of.fkS (es := ([fe_Validate, fe_inv]).map FE.ent) (ss := ([]).map SE.spe) ⟨ok_Validate, ok_inv, trivial⟩ trivial (fun a r h => fnRun_run h)
noncomputable def fe_tab : FE := ⟨F_group_Table, false, fnRun [fe_perms, fe_key, fe_comp] [] 4000 C.group.Table.top C.group.Table.rs 90 3 false⟩
theorem ok_tab : Fk prog fe_tab.ent := C.group.Table.fkS (es := ([fe_perms, fe_key, fe_comp]).map FE.ent) (ss := ([]).map SE.spe) ⟨ok_perms, ok_key, ok_comp, trivial⟩ trivial (fun a r h => fnRun_run h)
noncomputable def fe_three : FE := ⟨F_law16_three, false, fnRun [fe_Gen, fe_tab] [] 4000 C.law16.three.top C.law16.three.rs 18 3 false⟩
theorem ok_three : Fk prog fe_three.ent := C.law16.three.fkS (es := ([fe_Gen, fe_tab]).map FE.ent) (ss := ([]).map SE.spe) ⟨ok_Gen, ok_tab, trivial⟩ trivial (fun a r h => fnRun_run h)
noncomputable def fe_all : FE := ⟨F_group_group_all, false, fnRun [fe_iota] [] 4000 C.group.group.all.top C.group.group.all.rs 7 1 false⟩
theorem ok_all : Fk prog fe_all.ent := C.group.group.all.fkS (es := ([fe_iota]).map FE.ent) (ss := ([]).map SE.spe) ⟨ok_iota, trivial⟩ trivial (fun a r h => fnRun_run h)
noncomputable def fe_gen : FE := ⟨F_group_group_generate, false, fnRun [] [se_ints] 4000 C.group.group.generate.top C.group.group.generate.rs 61 4 false⟩
theorem ok_gen : Fk prog fe_gen.ent := C.group.group.generate.fkS (es := ([]).map FE.ent) (ss := ([se_ints]).map SE.spe) trivial ⟨ok_ints, trivial⟩ (fun a r h => fnRun_run h)
noncomputable def fe_clo : FE := ⟨F_group_group_closure, false, fnRun [fe_gen] [] 4000 C.group.group.closure.top C.group.group.closure.rs 63 4 false⟩
theorem ok_clo : Fk prog fe_clo.ent := C.group.group.closure.fkS (es := ([fe_gen]).map FE.ent) (ss := ([]).map SE.spe) ⟨ok_gen, trivial⟩ trivial (fun a r h => fnRun_run h)
noncomputable def fe_max : FE := ⟨F_group_group_maximal, false, fnRun [fe_clo] [] 4000 C.group.group.maximal.top C.group.group.maximal.rs 32 4 false⟩
theorem ok_max : Fk prog fe_max.ent := C.group.group.maximal.fkS (es := ([fe_clo]).map FE.ent) (ss := ([]).map SE.spe) ⟨ok_clo, trivial⟩ trivial (fun a r h => fnRun_run h)
noncomputable def fe_wth : FE := ⟨F_group_group_within, false, fnRun [fe_inv] [] 4000 C.group.group.within.top C.group.group.within.rs 79 5 false⟩
theorem ok_wth : Fk prog fe_wth.ent := C.group.group.within.fkS (es := ([fe_inv]).map FE.ent) (ss := ([]).map SE.spe) ⟨ok_inv, trivial⟩ trivial (fun a r h => fnRun_run h)
noncomputable def fe_cos : FE := ⟨F_group_group_cosets, false, fnRun [] [] 4000 C.group.group.cosets.top C.group.group.cosets.rs 56 2 false⟩
theorem ok_cos : Fk prog fe_cos.ent := C.group.group.cosets.fkS (es := ([]).map FE.ent) (ss := ([]).map SE.spe) trivial trivial (fun a r h => fnRun_run h)
noncomputable def fe_quo : FE := ⟨F_group_group_quotient, false, fnRun [fe_cos] [] 4000 C.group.group.quotient.top C.group.group.quotient.rs 76 5 false⟩
theorem ok_quo : Fk prog fe_quo.ent := C.group.group.quotient.fkS (es := ([fe_cos]).map FE.ent) (ss := ([]).map SE.spe) ⟨ok_cos, trivial⟩ trivial (fun a r h => fnRun_run h)
noncomputable def fe_sim : FE := ⟨F_group_group_simple, false, fnRun [fe_clo] [] 4000 C.group.group.simple.top C.group.group.simple.rs 30 2 false⟩
theorem ok_sim : Fk prog fe_sim.ent := C.group.group.simple.fkS (es := ([fe_clo]).map FE.ent) (ss := ([]).map SE.spe) ⟨ok_clo, trivial⟩ trivial (fun a r h => fnRun_run h)
noncomputable def fe_Sim : FE := ⟨F_group_Simple, false, fnRun [fe_of, fe_sim] [] 4000 C.group.Simple.top C.group.Simple.rs 15 1 false⟩
theorem ok_Sim : Fk prog fe_Sim.ent := C.group.Simple.fkS (es := ([fe_of, fe_sim]).map FE.ent) (ss := ([]).map SE.spe) ⟨ok_of, ok_sim, trivial⟩ trivial (fun a r h => fnRun_run h)
noncomputable def fe_ser : FE := ⟨F_group_Series, false, fnRun [fe_of, fe_all, fe_wth, fe_max] [] 4000 C.group.Series.top C.group.Series.rs 51 7 false⟩
theorem ok_ser : Fk prog fe_ser.ent := C.group.Series.fkS (es := ([fe_of, fe_all, fe_wth, fe_max]).map FE.ent) (ss := ([]).map SE.spe) ⟨ok_of, ok_all, ok_wth, ok_max, trivial⟩ trivial (fun a r h => fnRun_run h)
abbrev T6 : List (List Int) := [[0, 1, 2, 3, 4, 5], [1, 0, 3, 2, 5, 4], [2, 4, 0, 5, 1, 3], [3, 5, 1, 4, 0, 2], [4, 2, 5, 0, 3, 1], [5, 3, 4, 1, 2, 0]]
def atT (T : List (List Int)) (r : AV) (a : List AV) : Option AV := match a with
  | [x] => match unLLI x with
    | some t => if t = T then some r else none
    | none => none
  | _ => none
theorem atT_some {T : List (List Int)} {r r' : AV} {a : List AV} (h : atT T r a = some r') : a = [LLI false false T] ∧ r' = r := by
  unfold atT at h
  split at h
  · split at h
    · rename_i t e
      split at h
      · rename_i e2; subst e2; injection h with h; exact ⟨by rw [unLLI_some e], h.symm⟩
      · cases h
    · cases h
  · cases h
/-- What was run before. -/
def beqL (f : AV → AV → Bool) : List AV → List AV → Bool
  | [], [] => true
  | x :: xs, y :: ys => f x y && beqL f xs ys
  | _, _ => false
def beqS (ih : AV → AV → Bool) : AV → AV → Bool
  | .lit (.int .i64 a), .lit (.int .i64 b) => decide (a = b)
  | .lit (.bool a), .lit (.bool b) => a == b
  | .frz l k m cs, .frz l' k' m' ds => l == l' && Nat.beq k k' && Nat.beq m m' && beqL ih cs ds
  | .agg cs, .agg ds => beqL ih cs ds
  | _, _ => false
noncomputable def beqV (n : Nat) : AV → AV → Bool := Nat.rec (fun _ _ => false) (fun _ ih => beqS ih) n
theorem beqL_eq {f : AV → AV → Bool} (hf : ∀ x y, f x y = true → x = y) : ∀ {xs ys : List AV}, beqL f xs ys = true → xs = ys
  | [], [], _ => rfl
  | [], _ :: _, h => by cases h
  | _ :: _, [], h => by cases h
  | x :: xs, y :: ys, h => by
    simp only [beqL, Bool.and_eq_true] at h
    rw [hf _ _ h.1, beqL_eq hf h.2]
theorem beqV_eq : ∀ (n : Nat) (x y : AV), beqV n x y = true → x = y := by
  intro n
  induction n with
  | zero => intro x y h; cases h
  | succ n ih =>
    intro x y h
    have h : beqS (beqV n) x y = true := h
    unfold beqS at h
    split at h
    · rw [of_decide_eq_true h]
    · rw [eq_of_beq h]
    · simp only [Bool.and_eq_true, beq_iff_eq] at h
      obtain ⟨⟨⟨h1, h2⟩, h3⟩, h4⟩ := h
      rw [h1, Nat.eq_of_beq_eq_true h2, Nat.eq_of_beq_eq_true h3, beqL_eq ih h4]
    · rw [beqL_eq ih h]
    · cases h
noncomputable def memo (a : List AV) : List (List AV × AV) → Option AV
  | [] => none
  | p :: tbl => match beqL (beqV 12) a p.1 with
    | true => some p.2
    | false => memo a tbl
theorem memo_some {F : List AV → Option AV} {a : List AV} {r : AV} : ∀ {tbl : List (List AV × AV)}, (∀ p ∈ tbl, F p.1 = some p.2) → memo a tbl = some r → F a = some r
  | [], _, h => by cases h
  | p :: tbl, hp, h => by
    simp only [memo] at h
    split at h
    · rename_i e
      injection h with h; subst h
      rw [beqL_eq (beqV_eq 12) e]; exact hp p (List.mem_cons_self ..)
    · exact memo_some (fun q hq => hp q (List.mem_cons_of_mem _ hq)) h
noncomputable def FE.memo (e : FE) (tbl : List (List AV × AV)) : FE := ⟨e.f, e.leak, fun a => V.memo a tbl⟩
theorem ok_memo {P : Program} {e : FE} {tbl : List (List AV × AV)} (h : Fk P e.ent) (ht : ∀ p ∈ tbl, e.F p.1 = some p.2) : Fk P (e.memo tbl).ent :=
  ⟨fun args r hR => h.con args r (memo_some ht hR), h.ent⟩
abbrev T3 : List (List Int) := [[0, 1, 2], [1, 2, 0], [2, 0, 1]]
abbrev gA (l : Bool) (T : List (List Int)) (e : Int) (i : List Int) : AV := .agg [LLI l l T, eN .i64 e, LI l i]
abbrev g6 : AV := .agg [LLI false false T6, eN .i64 0, LI true [0, 1, 2, 4, 3, 5]]
end Go.Proofs.YtbpajecjaoefaaaGreat.V
