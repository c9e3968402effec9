/- The pure side of WordParts: for every input the printed function answers true. Conditions: none but those of the given statement. -/
import Derived.Test.YtfjmopdkpcplmabQWordPartsx4
import Derived.Test.YtfjmopdkpcplmabBase
set_option linter.unusedVariables false
set_option linter.unusedSimpArgs false
namespace Go.Proofs.Ytfjmopdkpcplmab.Pure
open Go.RowKit Go.Proofs.Ytfjmopdkpcplmab.QWordParts Go.Proofs.YtfjmopdkpcplmabW.PrintWords Go.Proofs.YtfjmopdkpcplmabW.PrintLast Go.Proofs.YtfjmopdkpcplmabW.PrintMore Go.Proofs.Ytfjmopdkpcplmab.Base

def subB : List Int → List Int → Bool
  | [], _ => true
  | _ :: _, [] => false
  | a :: u, b :: w => if b = a then subB u w else subB (a :: u) w
theorem subB_nil (w : List Int) : subB [] w = true := by cases w <;> rfl
theorem subB_iff : ∀ w u : List Int, subB u w = true ↔ List.Sublist u w
  | w, [] => by simp [subB_nil]
  | [], a :: u => by simp [subB]
  | b :: w, a :: u => by
    simp only [subB]
    by_cases h : b = a
    · subst h
      rw [if_pos rfl, subB_iff w u, List.cons_sublist_cons]
    · rw [if_neg h, subB_iff w (a :: u)]
      constructor
      · exact fun h' => h'.cons _
      · intro h'
        cases h' with
        | cons _ h'' => exact h''
        | cons_cons _ h'' => exact absurd rfl h
theorem word_IsSubword_l0 (u w : ByteArray) (hu : u.size ≤ 140737488355328) (hw : w.size ≤ 140737488355328) : ∀ (d i k : Nat), i + d = w.size → k ≤ u.size → Ev (fun n => word_IsSubword.l0 n u w (k : Int) (i : Int)) (subB ((bs u).drop k) ((bs w).drop i)) := by
  have lu := bs_length u
  have lw := bs_length w
  have hend : ∀ (i k : Nat) (b : Bool), b = false → k = u.size → Ev (fun n => word_IsSubword.j1 n u w (k : Int) (i : Int) b) true := by
    intro i k b hb hk
    refine evStep (fun k => by rw [word_IsSubword.j1]) ?_
    exact evNeg (by rw [hb]; simp) (evNow (by rw [beq_iff_eq]; omega))
  intro d
  induction d with
  | zero =>
    intro i k h hk
    refine evStep (fun k => by rw [word_IsSubword.l0]) ?_
    refine evNeg (by omega) ?_
    by_cases e : k = u.size
    · rw [List.drop_eq_nil_of_le (show (bs u).length ≤ k by omega), subB_nil]
      exact hend i k _ rfl e
    · refine evStep (fun k => by rw [word_IsSubword.j1]) ?_
      rw [drop_bt u (by omega), List.drop_eq_nil_of_le (show (bs w).length ≤ i by omega)]
      exact evNow (by simp only [subB]; rw [beq_eq_false_iff_ne]; omega)
  | succ d ih =>
    intro i k h hk
    refine evStep (fun k => by rw [word_IsSubword.l0]) ?_
    refine evPos (by omega) ?_
    by_cases e : k = u.size
    · rw [List.drop_eq_nil_of_le (show (bs u).length ≤ k by omega), subB_nil]
      exact hend i k _ (decide_eq_false (by omega)) e
    · refine evStep (fun k => by rw [word_IsSubword.j1]) ?_
      refine evPos (decide_eq_true (by omega)) (evPos (by omega) (evPos (by omega) (evPos (by omega) (evPos (by omega) ?_))))
      rw [drop_bt u (i := k) (by omega), drop_bt w (i := i) (by omega)]
      simp only [subB]
      by_cases hc : bt w (i : Int) = bt u (k : Int)
      · rw [if_pos hc, wrap_succ (by omega), wrap_succ (by omega)]
        exact evPos hc (ih (i + 1) (k + 1) (by omega) (by omega))
      · rw [if_neg hc, wrap_succ (i := i) (by omega), ← drop_bt u (i := k) (by omega)]
        exact evNeg hc (ih (i + 1) k (by omega) hk)
theorem word_IsSubword_ev (u w : ByteArray) (hu : u.size ≤ 140737488355328) (hw : w.size ≤ 140737488355328) : Ev (fun n => word_IsSubword.f n u w) (subB (bs u) (bs w)) := by
  unfold word_IsSubword.f
  have := word_IsSubword_l0 u w hu hw w.size 0 0 (by omega) (by omega)
  simpa using this

theorem semigroupref01_IsSubword_l0 (u w : ByteArray) (hu : u.size ≤ 140737488355328) (hw : w.size ≤ 140737488355328) : ∀ (d i k : Nat), i + d = w.size → k ≤ u.size → Ev (fun n => semigroupref01_IsSubword.l0 n u w (k : Int) (i : Int)) (subB ((bs u).drop k) ((bs w).drop i)) := by
  have lu := bs_length u
  have lw := bs_length w
  have hend : ∀ (i k : Nat) (b : Bool), b = false → k = u.size → Ev (fun n => semigroupref01_IsSubword.j1 n u w (k : Int) (i : Int) b) true := by
    intro i k b hb hk
    refine evStep (fun k => by rw [semigroupref01_IsSubword.j1]) ?_
    exact evNeg (by rw [hb]; simp) (evNow (by rw [beq_iff_eq]; omega))
  intro d
  induction d with
  | zero =>
    intro i k h hk
    refine evStep (fun k => by rw [semigroupref01_IsSubword.l0]) ?_
    refine evNeg (by omega) ?_
    by_cases e : k = u.size
    · rw [List.drop_eq_nil_of_le (show (bs u).length ≤ k by omega), subB_nil]
      exact hend i k _ rfl e
    · refine evStep (fun k => by rw [semigroupref01_IsSubword.j1]) ?_
      rw [drop_bt u (by omega), List.drop_eq_nil_of_le (show (bs w).length ≤ i by omega)]
      exact evNow (by simp only [subB]; rw [beq_eq_false_iff_ne]; omega)
  | succ d ih =>
    intro i k h hk
    refine evStep (fun k => by rw [semigroupref01_IsSubword.l0]) ?_
    refine evPos (by omega) ?_
    by_cases e : k = u.size
    · rw [List.drop_eq_nil_of_le (show (bs u).length ≤ k by omega), subB_nil]
      exact hend i k _ (decide_eq_false (by omega)) e
    · refine evStep (fun k => by rw [semigroupref01_IsSubword.j1]) ?_
      refine evPos (decide_eq_true (by omega)) (evPos (by omega) (evPos (by omega) (evPos (by omega) (evPos (by omega) ?_))))
      rw [drop_bt u (i := k) (by omega), drop_bt w (i := i) (by omega)]
      simp only [subB]
      by_cases hc : bt w (i : Int) = bt u (k : Int)
      · rw [if_pos hc, wrap_succ (by omega), wrap_succ (by omega)]
        exact evPos hc (ih (i + 1) (k + 1) (by omega) (by omega))
      · rw [if_neg hc, wrap_succ (i := i) (by omega), ← drop_bt u (i := k) (by omega)]
        exact evNeg hc (ih (i + 1) k (by omega) hk)
theorem semigroupref01_IsSubword_ev (u w : ByteArray) (hu : u.size ≤ 140737488355328) (hw : w.size ≤ 140737488355328) : Ev (fun n => semigroupref01_IsSubword.f n u w) (subB (bs u) (bs w)) := by
  unfold semigroupref01_IsSubword.f
  have := semigroupref01_IsSubword_l0 u w hu hw w.size 0 0 (by omega) (by omega)
  simpa using this

def at' (w : List Int) (j : Nat) : Int := w.getD j 0
theorem bt_at' (s : ByteArray) (i : Nat) : bt s (i : Int) = at' (bs s) i := by rw [bt_bs]; rfl
/-- The prefix of length i has a border of length b. -/
def Bd (w : List Int) (i b : Nat) : Prop := b ≤ i ∧ ∀ j, j < b → at' w j = at' w (i - b + j)
/-- The longest proper one. -/
def FB (w : List Int) (i b : Nat) : Prop := (i = 0 ∧ b = 0) ∨ (b < i ∧ Bd w i b ∧ ∀ c, c < i → Bd w i c → c ≤ b)
theorem Bd_zero (w : List Int) (i : Nat) : Bd w i 0 := ⟨by omega, fun j hj => by omega⟩
theorem Bd_trans {w : List Int} {i b c : Nat} (h : Bd w i b) (hc : c ≤ b) : Bd w i c ↔ Bd w b c := by
  constructor
  · rintro ⟨h1, h2⟩
    refine ⟨hc, fun j hj => ?_⟩
    rw [h2 j hj, h.2 (b - c + j) (by omega)]
    congr 1; have := h.1; omega
  · rintro ⟨h1, h2⟩
    refine ⟨by have := h.1; omega, fun j hj => ?_⟩
    rw [h2 j hj, h.2 (b - c + j) (by omega)]
    congr 1; have := h.1; omega
theorem Bd_succ {w : List Int} {i b : Nat} : Bd w (i + 1) (b + 1) ↔ Bd w i b ∧ at' w b = at' w i := by
  constructor
  · rintro ⟨h1, h2⟩
    refine ⟨⟨by omega, fun j hj => ?_⟩, ?_⟩
    · rw [h2 j (by omega)]; congr 1; omega
    · rw [h2 b (by omega)]; congr 1; omega
  · rintro ⟨h1, h2⟩
    refine ⟨by have := h1.1; omega, fun j hj => ?_⟩
    by_cases e : j = b
    · subst e; rw [h2]; congr 1; have := h1.1; omega
    · rw [h1.2 j (by omega)]; congr 1; have := h1.1; omega
theorem FB_unique {w : List Int} {i b c : Nat} (h : FB w i b) (h' : FB w i c) : b = c := by
  rcases h with ⟨rfl, rfl⟩ | ⟨h1, h2, h3⟩ <;> rcases h' with ⟨h4, rfl⟩ | ⟨g1, g2, g3⟩
  · rfl
  · omega
  · omega
  · have := h3 c g1 g2; have := g3 b h1 h2; omega
theorem FB_one (w : List Int) : FB w 1 0 := .inr ⟨by omega, Bd_zero w 1, fun c hc _ => by omega⟩
theorem FB_le {w : List Int} {i b : Nat} (h : FB w i b) : b ≤ i := by rcases h with ⟨rfl, rfl⟩ | h <;> omega
theorem FB_hit {w : List Int} {i k : Nat} (h1 : k < i) (h2 : Bd w i k) (h3 : ∀ c, c < i → Bd w i c → at' w c = at' w i → c ≤ k) (he : at' w i = at' w k) : FB w (i + 1) (k + 1) := by
  refine .inr ⟨by omega, Bd_succ.2 ⟨h2, he.symm⟩, fun c hc hb => ?_⟩
  rcases c with _ | c
  · omega
  · obtain ⟨g1, g2⟩ := Bd_succ.1 hb
    have := h3 c (by omega) g1 g2; omega
theorem FB_miss {w : List Int} {i : Nat} (h3 : ∀ c, c < i → Bd w i c → at' w c = at' w i → c ≤ 0) (he : ¬ at' w i = at' w 0) : FB w (i + 1) 0 := by
  refine .inr ⟨by omega, Bd_zero w _, fun c hc hb => ?_⟩
  rcases c with _ | c
  · omega
  · exfalso
    obtain ⟨g1, g2⟩ := Bd_succ.1 hb
    have := h3 c (by omega) g1 g2
    obtain rfl : c = 0 := by omega
    exact he g2.symm
/-- The table of borders, right up to i. -/
def Tb (w : List Int) (n i : Nat) (F : List Int) : Prop := F.length = n + 1 ∧ ∀ j, j ≤ i → ∃ b : Nat, F.getD j 0 = b ∧ FB w j b
theorem getD_set' (xs : List Int) (j k : Nat) (v : Int) (hj : j < xs.length) : (xs.set j v).getD k 0 = if j = k then v else xs.getD k 0 := by
  rw [List.getD_eq_getElem?_getD, List.getD_eq_getElem?_getD, List.getElem?_set]
  by_cases h : j = k
  · subst h; simp [hj]
  · simp [h]
theorem Tb.put {w : List Int} {n i : Nat} {F : List Int} {b : Nat} (h : Tb w n i F) (hi : i < n) (hb : FB w (i + 1) b) : Tb w n (i + 1) (F.set (i + 1) (b : Int)) := by
  have hl := h.1
  refine ⟨by rw [List.length_set]; exact hl, fun j hj => ?_⟩
  rw [getD_set' _ _ _ _ (by omega)]
  by_cases e : i + 1 = j
  · subst e; rw [if_pos rfl]; exact ⟨b, rfl, hb⟩
  · rw [if_neg e]; exact h.2 j (by omega)

/-- The pattern's first k letters stand in the text right before place i. -/
def Mt (u w : List Int) (i k : Nat) : Prop := k ≤ i ∧ ∀ j, j < k → at' u j = at' w (i - k + j)
theorem Mt_zero (u w : List Int) (i : Nat) : Mt u w i 0 := ⟨by omega, fun j hj => by omega⟩
theorem Mt_trans {u w : List Int} {i k c : Nat} (h : Mt u w i k) (hc : c ≤ k) : Mt u w i c ↔ Bd u k c := by
  constructor
  · rintro ⟨h1, h2⟩
    refine ⟨hc, fun j hj => ?_⟩
    rw [h2 j hj, h.2 (k - c + j) (by omega)]
    congr 1; have := h.1; omega
  · rintro ⟨h1, h2⟩
    refine ⟨by have := h.1; omega, fun j hj => ?_⟩
    rw [h2 j hj, h.2 (k - c + j) (by omega)]
    congr 1; have := h.1; omega
theorem Mt_succ {u w : List Int} {i k : Nat} : Mt u w (i + 1) (k + 1) ↔ Mt u w i k ∧ at' u k = at' w i := by
  constructor
  · rintro ⟨h1, h2⟩
    refine ⟨⟨by omega, fun j hj => ?_⟩, ?_⟩
    · rw [h2 j (by omega)]; congr 1; omega
    · rw [h2 k (by omega)]; congr 1; omega
  · rintro ⟨h1, h2⟩
    refine ⟨by have := h1.1; omega, fun j hj => ?_⟩
    by_cases e : j = k
    · subst e; rw [h2]; congr 1; have := h1.1; omega
    · rw [h1.2 j (by omega)]; congr 1; have := h1.1; omega
theorem infix_iff (u w : List Int) : u <:+: w ↔ ∃ i, i ≤ w.length ∧ Mt u w i u.length := by
  constructor
  · rintro ⟨s, t, rfl⟩
    refine ⟨s.length + u.length, by simp only [List.length_append]; omega, by omega, fun j hj => ?_⟩
    simp only [at', List.getD_eq_getElem?_getD]
    rw [List.append_assoc, List.getElem?_append_right (by omega), List.getElem?_append_left (by omega)]
    congr 2; omega
  · rintro ⟨i, hi, h1, h2⟩
    refine ⟨w.take (i - u.length), w.drop i, ?_⟩
    apply List.ext_getElem?
    intro j
    rw [List.append_assoc]
    by_cases hj : j < i - u.length
    · rw [List.getElem?_append_left (by rw [List.length_take]; omega), List.getElem?_take, if_pos hj]
    · rw [List.getElem?_append_right (by rw [List.length_take]; omega), List.length_take, Nat.min_eq_left (by omega)]
      by_cases hj' : j < i
      · rw [List.getElem?_append_left (by omega)]
        have := h2 (j - (i - u.length)) (by omega)
        simp only [at', List.getD_eq_getElem?_getD] at this
        rw [show i - u.length + (j - (i - u.length)) = j by omega] at this
        rw [List.getElem?_eq_getElem (show j - (i - u.length) < u.length by omega), List.getElem?_eq_getElem (show j < w.length by omega)] at this ⊢
        simp only [Option.getD_some] at this
        rw [this]
      · rw [List.getElem?_append_right (by omega), List.getElem?_drop]
        congr 1; omega

def NoOcc (u w : List Int) (i : Nat) : Prop := ∀ p, p ≤ i → ¬ Mt u w p u.length
def St (u w : List Int) (i k : Nat) : Prop := k < u.length ∧ Mt u w i k ∧ (∀ c, c < u.length → Mt u w i c → c ≤ k) ∧ NoOcc u w i
def In (u w : List Int) (i k : Nat) : Prop := k < u.length ∧ Mt u w i k ∧ (∀ c, c < u.length → Mt u w i c → at' u c = at' w i → c ≤ k) ∧ NoOcc u w i
theorem St.inn {u w : List Int} {i k : Nat} (h : St u w i k) : In u w i k := ⟨h.1, h.2.1, fun c hc hM _ => h.2.2.1 c hc hM, h.2.2.2⟩
theorem In.noOcc {u w : List Int} {i k : Nat} (h : In u w i k) (hn : ¬ (at' u (u.length - 1) = at' w i ∧ u.length - 1 ≤ k)) : NoOcc u w (i + 1) := by
  obtain ⟨hk, hM, hmax, hno⟩ := h
  intro p hp hMp
  by_cases e : p = i + 1
  · subst e
    have hMp' : Mt u w (i + 1) ((u.length - 1) + 1) := by rw [Nat.sub_add_cancel (by omega)]; exact hMp
    obtain ⟨g1, g2⟩ := Mt_succ.1 hMp'
    exact hn ⟨g2, hmax (u.length - 1) (by omega) g1 g2⟩
  · exact hno p (by omega) hMp
theorem In.hit {u w : List Int} {i k : Nat} (h : In u w i k) (he : at' u k = at' w i) (hk1 : k + 1 < u.length) : St u w (i + 1) (k + 1) := by
  have hno := h.noOcc (fun hn => by have := hn.2; omega)
  obtain ⟨hk, hM, hmax, _⟩ := h
  refine ⟨hk1, Mt_succ.2 ⟨hM, he⟩, fun c hc hMc => ?_, hno⟩
  rcases c with _ | c
  · omega
  · obtain ⟨g1, g2⟩ := Mt_succ.1 hMc
    have := hmax c (by omega) g1 g2
    omega
theorem In.found {u w : List Int} {i k : Nat} (h : In u w i k) (he : at' u k = at' w i) (hk1 : k + 1 = u.length) (hi : i < w.length) : u <:+: w :=
  (infix_iff _ _).2 ⟨i + 1, by omega, by rw [← hk1]; exact Mt_succ.2 ⟨h.2.1, he⟩⟩
theorem In.miss {u w : List Int} {i : Nat} (h : In u w i 0) (he : ¬ at' u 0 = at' w i) : St u w (i + 1) 0 := by
  have hno := h.noOcc (fun hn => by
    have h1 := hn.1
    rw [show u.length - 1 = 0 by have := hn.2; omega] at h1
    exact he h1)
  obtain ⟨hk, hM, hmax, _⟩ := h
  refine ⟨hk, Mt_zero _ _ _, fun c hc hMc => ?_, hno⟩
  rcases c with _ | c
  · omega
  · obtain ⟨g1, g2⟩ := Mt_succ.1 hMc
    have := hmax c (by omega) g1 g2
    obtain rfl : c = 0 := by omega
    exact absurd g2 he
theorem In.back {u w : List Int} {i k q : Nat} (h : In u w i k) (he : ¬ at' u k = at' w i) (hk0 : 0 < k) (hq : FB u k q) : q < k ∧ In u w i q := by
  obtain ⟨hk, hM, hmax, hno⟩ := h
  have hq' : q < k ∧ Bd u k q ∧ ∀ c, c < k → Bd u k c → c ≤ q := by
    rcases hq with ⟨h, _⟩ | h
    · omega
    · exact h
  refine ⟨hq'.1, by omega, (Mt_trans hM (by omega)).2 hq'.2.1, fun c hc hMc heq => ?_, hno⟩
  have hck := hmax c hc hMc heq
  have hne : c ≠ k := by
    rintro rfl
    exact he heq
  exact hq'.2.2 c (by omega) ((Mt_trans hM (by omega)).1 hMc)

theorem word_borders_l1 (s : ByteArray) (hs : s.size ≤ 4000000) (i : Nat) (hi : i < s.size)
    (ih : ∀ (F : List Int) (b : Nat), Tb (bs s) s.size (i + 1) F → FB (bs s) (i + 1) b → F.getD (i + 1) 0 = b → ∃ F', Ev (fun k => word_borders.l0 k s F (b : Int) ((i + 1 : Nat) : Int)) F' ∧ Tb (bs s) s.size s.size F') :
    ∀ (b k : Nat) (F : List Int), k ≤ b → k < i → Tb (bs s) s.size i F → Bd (bs s) i k → (∀ c, c < i → Bd (bs s) i c → at' (bs s) c = at' (bs s) i → c ≤ k) →
    ∃ F', Ev (fun n => word_borders.l1 n s F (k : Int) (i : Int)) F' ∧ Tb (bs s) s.size s.size F' := by
  intro b
  induction b with
  | zero =>
    intro k F hk hki hF hB hmax
    obtain rfl : k = 0 := by omega
    have hl := hF.1
    have e1 : wrap64 ((i : Int) + 1) = ((i + 1 : Nat) : Int) := wrap_succ (by omega)
    have e2 : wrap64 (((0 : Nat) : Int) + 1) = ((1 : Nat) : Int) := wrap_succ (by omega)
    by_cases he : bt s (i : Int) = bt s ((0 : Nat) : Int)
    · have hb := FB_hit hki hB hmax (by rw [← bt_at', ← bt_at']; exact he)
      obtain ⟨F', hE, hT⟩ := ih _ 1 (hF.put hi hb) hb (by rw [getD_set' _ _ _ _ (by omega), if_pos rfl])
      refine ⟨F', ?_, hT⟩
      refine evStep (fun k => by rw [word_borders.l1]) ?_
      rw [e1, e2]
      refine evNeg (by omega) (evPos (by omega) (evPos (by omega) (evPos (by omega) (evPos (by omega) (evPos he (evPos (by omega) (evPos (by omega) ?_)))))))
      exact hE
    · have hb := FB_miss hmax (by rw [← bt_at', ← bt_at']; exact he)
      obtain ⟨F', hE, hT⟩ := ih _ 0 (hF.put hi hb) hb (by rw [getD_set' _ _ _ _ (by omega), if_pos rfl])
      refine ⟨F', ?_, hT⟩
      refine evStep (fun k => by rw [word_borders.l1]) ?_
      rw [e1]
      refine evNeg (by omega) (evPos (by omega) (evPos (by omega) (evPos (by omega) (evPos (by omega) (evNeg he (evPos (by omega) (evPos (by omega) ?_)))))))
      exact hE
  | succ b bh =>
    intro k F hk hki hF hB hmax
    by_cases hk0 : k ≤ b
    · exact bh k F hk0 hki hF hB hmax
    · have hl := hF.1
      have e1 : wrap64 ((i : Int) + 1) = ((i + 1 : Nat) : Int) := wrap_succ (by omega)
      have e2 : wrap64 ((k : Int) + 1) = ((k + 1 : Nat) : Int) := wrap_succ (by omega)
      by_cases he : bt s (i : Int) = bt s (k : Int)
      · have hb := FB_hit hki hB hmax (by rw [← bt_at', ← bt_at']; exact he)
        obtain ⟨F', hE, hT⟩ := ih _ (k + 1) (hF.put hi hb) hb (by rw [getD_set' _ _ _ _ (by omega), if_pos rfl])
        refine ⟨F', ?_, hT⟩
        refine evStep (fun k => by rw [word_borders.l1]) ?_
        rw [e1, e2]
        refine evPos (by omega) (evPos (by omega) (evPos (by omega) (evPos (by omega) (evPos (by omega) (evPos he (evPos (by omega) (evPos (by omega) ?_)))))))
        exact hE
      · obtain ⟨q, hq, hfb⟩ := hF.2 k (by omega)
        have hq' : q < k ∧ Bd (bs s) k q ∧ ∀ c, c < k → Bd (bs s) k c → c ≤ q := by
          rcases hfb with ⟨h, _⟩ | h
          · omega
          · exact h
        obtain ⟨F', hE, hT⟩ := bh q F (by omega) (by omega) hF ((Bd_trans hB (by omega)).2 hq'.2.1) (fun c hc hbc heq => by
          have hck := hmax c hc hbc heq
          have hne : c ≠ k := by
            rintro rfl
            exact he (by rw [bt_at', bt_at']; exact heq.symm)
          exact hq'.2.2 c (by omega) ((Bd_trans hB (by omega)).1 hbc))
        refine ⟨F', ?_, hT⟩
        refine evStep (fun k => by rw [word_borders.l1]) ?_
        refine evPos (by omega) (evPos (by omega) (evPos (by omega) (evPos (by omega) (evPos (by omega) (evNeg he (evPos (by omega) ?_))))))
        rw [show rd F (k : Int) = (q : Int) from hq]
        exact hE
theorem word_borders_l0 (s : ByteArray) (hs : s.size ≤ 4000000) : ∀ (d i b : Nat) (F : List Int), i + d = s.size → 1 ≤ i → Tb (bs s) s.size i F → FB (bs s) i b →
    ∃ F', Ev (fun n => word_borders.l0 n s F (b : Int) (i : Int)) F' ∧ Tb (bs s) s.size s.size F' := by
  intro d
  induction d with
  | zero =>
    intro i b F h h1 hF hb
    refine ⟨F, ?_, by rw [show s.size = i by omega] at hF ⊢; exact hF⟩
    refine evStep (fun k => by rw [word_borders.l0]) ?_
    exact evNeg (by omega) (Ev.now _)
  | succ d ih =>
    intro i b F h h1 hF hb
    have hb' : b < i ∧ Bd (bs s) i b ∧ ∀ c, c < i → Bd (bs s) i c → c ≤ b := by
      rcases hb with ⟨h, _⟩ | h
      · omega
      · exact h
    obtain ⟨F', hE, hT⟩ := word_borders_l1 s hs i (by omega) (fun F b hF hb _ => ih (i + 1) b F (by omega) (by omega) hF hb) b b F (Nat.le_refl _) hb'.1 hF hb'.2.1 (fun c hc hbc _ => hb'.2.2 c hc hbc)
    refine ⟨F', ?_, hT⟩
    refine evStep (fun k => by rw [word_borders.l0]) ?_
    exact evPos (by omega) hE
theorem word_borders_ev (s : ByteArray) (hs : s.size ≤ 4000000) : ∃ F, Ev (fun n => word_borders.f n s) F ∧ Tb (bs s) s.size s.size F := by
  have e1 : wrap64 ((s.size : Int) + 1) = ((s.size + 1 : Nat) : Int) := wrap_succ (by omega)
  have hz : ∀ j, (List.replicate (s.size + 1) (0 : Int)).getD j 0 = 0 := by
    intro j
    rw [List.getD_eq_getElem?_getD, List.getElem?_replicate]
    split <;> simp
  by_cases h : s.size = 0
  · refine ⟨List.replicate (s.size + 1) 0, ?_, by simp, fun j hj => ⟨0, hz j, .inl ⟨by omega, rfl⟩⟩⟩
    unfold word_borders.f
    rw [e1, Int.toNat_natCast]
    refine evPos (by omega) (evPos (by omega) ?_)
    refine evStep (fun k => by rw [word_borders.l0]) ?_
    exact evNeg (by omega) (Ev.now _)
  · obtain ⟨F, hE, hT⟩ := word_borders_l0 s hs (s.size - 1) 1 0 (List.replicate (s.size + 1) 0) (by omega) (by omega) ⟨by simp, fun j hj => ⟨0, hz j, by
      by_cases e : j = 0
      · exact .inl ⟨e, rfl⟩
      · obtain rfl : j = 1 := by omega
        exact FB_one _⟩⟩ (FB_one _)
    refine ⟨F, ?_, hT⟩
    unfold word_borders.f
    rw [e1, Int.toNat_natCast]
    exact evPos (by omega) (evPos (by omega) hE)

theorem word_IsFactor_j2 (u w : ByteArray) (hu : u.size ≤ 4000000) (hw : w.size ≤ 4000000) (F : List Int) (i k : Nat) (hi : i < w.size) (hI : In (bs u) (bs w) i k) (hend : ¬ at' (bs u) k = at' (bs w) i → k = 0)
    (ih : ∀ k, St (bs u) (bs w) (i + 1) k → ∃ b, Ev (fun n => word_IsFactor.l0 n u w F (k : Int) ((i + 1 : Nat) : Int)) b ∧ (b = true ↔ bs u <:+: bs w)) :
    ∃ b, Ev (fun n => word_IsFactor.j2 n u w F (k : Int) (i : Int)) b ∧ (b = true ↔ bs u <:+: bs w) := by
  have lu := bs_length u
  have lw := bs_length w
  have hk : k < u.size := by have := hI.1; omega
  have ei : wrap64 ((i : Int) + 1) = ((i + 1 : Nat) : Int) := wrap_succ (by omega)
  have ek : wrap64 ((k : Int) + 1) = ((k + 1 : Nat) : Int) := wrap_succ (by omega)
  by_cases he : at' (bs u) k = at' (bs w) i
  · have he' : bt w (i : Int) = bt u (k : Int) := by rw [bt_at', bt_at']; exact he.symm
    by_cases hk1 : k + 1 = u.size
    · refine ⟨true, ?_, fun _ => hI.found he (by omega) (by omega), fun _ => rfl⟩
      refine evStep (fun k => by rw [word_IsFactor.j2]) ?_
      rw [ek]
      exact evPos (by omega) (evPos (by omega) (evPos (by omega) (evPos (by omega) (evPos he' (evPos (by omega) (Ev.now _))))))
    · obtain ⟨b, hE, hb⟩ := ih (k + 1) (hI.hit he (by omega))
      refine ⟨b, ?_, hb⟩
      refine evStep (fun k => by rw [word_IsFactor.j2]) ?_
      rw [ei, ek]
      exact evPos (by omega) (evPos (by omega) (evPos (by omega) (evPos (by omega) (evPos he' (evNeg (by omega) hE)))))
  · have he' : ¬ bt w (i : Int) = bt u (k : Int) := by rw [bt_at', bt_at']; exact fun h => he h.symm
    obtain rfl := hend he
    obtain ⟨b, hE, hb⟩ := ih 0 (hI.miss he)
    refine ⟨b, ?_, hb⟩
    refine evStep (fun k => by rw [word_IsFactor.j2]) ?_
    rw [ei]
    exact evPos (by omega) (evPos (by omega) (evPos (by omega) (evPos (by omega) (evNeg he' (evNeg (by omega) hE)))))
theorem word_IsFactor_l1 (u w : ByteArray) (hu : u.size ≤ 4000000) (hw : w.size ≤ 4000000) (F : List Int) (hF : Tb (bs u) u.size u.size F) (i : Nat) (hi : i < w.size)
    (ih : ∀ k, St (bs u) (bs w) (i + 1) k → ∃ b, Ev (fun n => word_IsFactor.l0 n u w F (k : Int) ((i + 1 : Nat) : Int)) b ∧ (b = true ↔ bs u <:+: bs w)) :
    ∀ (b k : Nat), k ≤ b → In (bs u) (bs w) i k → ∃ b, Ev (fun n => word_IsFactor.l1 n u w F (k : Int) (i : Int)) b ∧ (b = true ↔ bs u <:+: bs w) := by
  have lu := bs_length u
  have hl := hF.1
  intro b
  induction b with
  | zero =>
    intro k hkb hI
    obtain rfl : k = 0 := by omega
    obtain ⟨b, hE, hb⟩ := word_IsFactor_j2 u w hu hw F i 0 hi hI (fun _ => rfl) ih
    refine ⟨b, ?_, hb⟩
    refine evStep (fun k => by rw [word_IsFactor.l1]) ?_
    exact evNeg (by omega) hE
  | succ b bh =>
    intro k hkb hI
    by_cases hk0 : k ≤ b
    · exact bh k hk0 hI
    · have hk : k < u.size := by have := hI.1; omega
      by_cases he : at' (bs u) k = at' (bs w) i
      · have he' : bt w (i : Int) = bt u (k : Int) := by rw [bt_at', bt_at']; exact he.symm
        obtain ⟨r, hE, hb⟩ := word_IsFactor_j2 u w hu hw F i k hi hI (fun h => absurd he h) ih
        refine ⟨r, ?_, hb⟩
        refine evStep (fun k => by rw [word_IsFactor.l1]) ?_
        exact evPos (by omega) (evPos (by omega) (evPos (by omega) (evPos (by omega) (evPos (by omega) (evPos he' hE)))))
      · have he' : ¬ bt w (i : Int) = bt u (k : Int) := by rw [bt_at', bt_at']; exact fun h => he h.symm
        obtain ⟨q, hq, hfb⟩ := hF.2 k (by omega)
        obtain ⟨hqk, hIq⟩ := hI.back he (by omega) hfb
        obtain ⟨r, hE, hb⟩ := bh q (by omega) hIq
        refine ⟨r, ?_, hb⟩
        refine evStep (fun k => by rw [word_IsFactor.l1]) ?_
        refine evPos (by omega) (evPos (by omega) (evPos (by omega) (evPos (by omega) (evPos (by omega) (evNeg he' (evPos (by omega) ?_))))))
        rw [show rd F (k : Int) = (q : Int) from hq]
        exact hE
theorem word_IsFactor_l0 (u w : ByteArray) (hu : u.size ≤ 4000000) (hw : w.size ≤ 4000000) (F : List Int) (hF : Tb (bs u) u.size u.size F) : ∀ (d i k : Nat), i + d = w.size → St (bs u) (bs w) i k →
    ∃ b, Ev (fun n => word_IsFactor.l0 n u w F (k : Int) (i : Int)) b ∧ (b = true ↔ bs u <:+: bs w) := by
  have lu := bs_length u
  have lw := bs_length w
  intro d
  induction d with
  | zero =>
    intro i k h hS
    refine ⟨false, ?_, fun h => by simp at h, fun h => ?_⟩
    · refine evStep (fun k => by rw [word_IsFactor.l0]) ?_
      exact evNeg (by omega) (Ev.now _)
    · obtain ⟨p, hp, hMp⟩ := (infix_iff _ _).1 h
      exact absurd hMp (hS.2.2.2 p (by omega))
  | succ d ih =>
    intro i k h hS
    obtain ⟨b, hE, hb⟩ := word_IsFactor_l1 u w hu hw F hF i (by omega) (fun k hS => ih (i + 1) k (by omega) hS) k k (Nat.le_refl _) hS.inn
    refine ⟨b, ?_, hb⟩
    refine evStep (fun k => by rw [word_IsFactor.l0]) ?_
    exact evPos (by omega) hE
theorem word_IsFactor_ev (u w : ByteArray) (hu : u.size ≤ 4000000) (hw : w.size ≤ 4000000) : ∃ b, Ev (fun n => word_IsFactor.f n u w) b ∧ (b = true ↔ bs u <:+: bs w) := by
  have lu := bs_length u
  by_cases h : u.size = 0
  · refine ⟨true, ?_, fun _ => ?_, fun _ => rfl⟩
    · unfold word_IsFactor.f
      exact evPos (by omega) (Ev.now _)
    · rw [List.eq_nil_of_length_eq_zero (show (bs u).length = 0 by omega)]
      exact List.nil_infix
  · obtain ⟨F, hE, hF⟩ := word_borders_ev u hu
    obtain ⟨b, hE', hb⟩ := word_IsFactor_l0 u w hu hw F hF w.size 0 0 (by omega) ⟨by omega, Mt_zero _ _ _, fun c hc hM => by have := hM.1; omega, fun p hp hM => by have := hM.1; omega⟩
    refine ⟨b, ?_, hb⟩
    unfold word_IsFactor.f
    exact evNeg (by omega) (evBind hE hE')

theorem semigroupref01_IsFactor_l0 (u w : ByteArray) (hu : u.size ≤ 4000000) (hw : w.size ≤ 4000000) : ∀ (d i : Nat), i + d = w.size + 1 → (∀ p, p < i + u.size → ¬ Mt (bs u) (bs w) p u.size) → ∃ b, Ev (fun n => semigroupref01_IsFactor.l0 n u w (i : Int)) b ∧ (b = true ↔ bs u <:+: bs w) := by
  have lu := bs_length u
  have lw := bs_length w
  intro d
  have hno : ∀ i, w.size < i + u.size → (∀ p, p < i + u.size → ¬ Mt (bs u) (bs w) p u.size) → i ≤ w.size + 1 → ∃ b, Ev (fun n => semigroupref01_IsFactor.l0 n u w (i : Int)) b ∧ (b = true ↔ bs u <:+: bs w) := by
    intro i hi hp hiw
    refine ⟨false, ?_, fun h => by simp at h, fun h => ?_⟩
    · refine evStep (fun k => by rw [semigroupref01_IsFactor.l0]) ?_
      exact evNeg (by rw [wrap_id (by omega) (by omega)]; omega) (Ev.now _)
    · obtain ⟨p, hpl, hM⟩ := (infix_iff _ _).1 h
      rw [lu] at hM
      exact absurd hM (hp p (by omega))
  induction d with
  | zero =>
    intro i h hp
    exact hno i (by omega) hp (by omega)
  | succ d ih =>
    intro i h hp
    by_cases hi : w.size < i + u.size
    · exact hno i hi hp (by omega)
    · have e1 : wrap64 ((i : Int) + (u.size : Int)) = ((i + u.size : Nat) : Int) := by rw [wrap_id (by omega) (by omega)]; omega
      have hiff : (w.extract ((i : Int)).toNat (((i + u.size : Nat) : Int)).toNat).toList = u.toList ↔ Mt (bs u) (bs w) (i + u.size) u.size := by
        rw [toList_iff, bs_extract, Int.toNat_natCast, Int.toNat_natCast]
        constructor
        · intro h'
          refine ⟨by omega, fun j hj => ?_⟩
          have hj' : ((bs w).take (i + u.size)).drop i = bs u := h'
          rw [← hj']
          simp only [at', List.getD_eq_getElem?_getD, List.getElem?_drop, List.getElem?_take]
          rw [if_pos (by omega)]
          congr 2; omega
        · intro hM
          apply List.ext_getElem?
          intro j
          rw [List.getElem?_drop, List.getElem?_take]
          by_cases hj : j < u.size
          · rw [if_pos (by omega)]
            have := hM.2 j hj
            simp only [at', List.getD_eq_getElem?_getD] at this
            rw [show i + u.size - u.size + j = i + j by omega] at this
            rw [List.getElem?_eq_getElem (show j < (bs u).length by omega), List.getElem?_eq_getElem (show i + j < (bs w).length by omega)] at this ⊢
            simp only [Option.getD_some] at this
            rw [this]
          · rw [if_neg (by omega), List.getElem?_eq_none (by omega)]
      by_cases hM : Mt (bs u) (bs w) (i + u.size) u.size
      · refine ⟨true, ?_, fun _ => (infix_iff _ _).2 ⟨i + u.size, by omega, by rw [lu]; exact hM⟩, fun _ => rfl⟩
        refine evStep (fun k => by rw [semigroupref01_IsFactor.l0]) ?_
        rw [e1]
        exact evPos (by omega) (evPos (by omega) (evPos (by omega) (evPos (hiff.2 hM) (Ev.now _))))
      · obtain ⟨b, hE, hb⟩ := ih (i + 1) (by omega) (fun p hpl => by
          by_cases e : p = i + u.size
          · subst e; exact hM
          · exact hp p (by omega))
        refine ⟨b, ?_, hb⟩
        refine evStep (fun k => by rw [semigroupref01_IsFactor.l0]) ?_
        rw [e1, wrap_succ (i := i) (by omega)]
        exact evPos (by omega) (evPos (by omega) (evPos (by omega) (evNeg (fun h' => hM (hiff.1 h')) hE)))
theorem semigroupref01_IsFactor_ev (u w : ByteArray) (hu : u.size ≤ 4000000) (hw : w.size ≤ 4000000) : ∃ b, Ev (fun n => semigroupref01_IsFactor.f n u w) b ∧ (b = true ↔ bs u <:+: bs w) := by
  unfold semigroupref01_IsFactor.f
  exact semigroupref01_IsFactor_l0 u w hu hw (w.size + 1) 0 (by omega) (fun p hp hM => by have := hM.1; omega)

theorem rep_set (t : List Int) (x : Int) : ∀ m : Nat, (List.replicate (m + 1) 0 ++ t).set m x = List.replicate m 0 ++ x :: t
  | 0 => rfl
  | m + 1 => by rw [List.replicate_succ, List.cons_append, List.set_cons_succ, rep_set t x m]; rfl
theorem word_Reverse_l0 (s : ByteArray) (hs : s.size ≤ 140737488355328) : ∀ d i : Nat, i + d = s.size → Ev (fun k => word_Reverse.l0 k s (List.replicate d 0 ++ ((bs s).take i).reverse) i) (strOfNums (bs s).reverse) := by
  intro d
  induction d with
  | zero =>
    intro i h
    refine evStep (fun k => by rw [word_Reverse.l0]) ?_
    refine evNeg (by omega) (evNow ?_)
    rw [List.take_of_length_le (by rw [bs_length]; omega)]; rfl
  | succ d ih =>
    intro i h
    refine evStep (fun k => by rw [word_Reverse.l0]) ?_
    have e1 : wrap64 ((wrap64 ((s.size : Int) - 1)) - i) = (d : Int) := by unfold wrap64; omega
    rw [e1]
    refine evPos (by omega) (evPos (by omega) (evPos (by omega) (evPos ?_ ?_)))
    · simp only [List.length_append, List.length_replicate]; omega
    · rw [wrap_succ (by omega), Int.toNat_natCast, rep_set]
      have := ih (i + 1) (by omega)
      rw [take_bt s (by omega), List.reverse_append] at this
      exact this
theorem word_Reverse_ev (s : ByteArray) (hs : s.size ≤ 140737488355328) : Ev (fun k => word_Reverse.f k s) (strOfNums (bs s).reverse) := by
  unfold word_Reverse.f
  refine evPos (by omega) (evPos (by omega) ?_)
  have := word_Reverse_l0 s hs s.size 0 (by omega)
  simpa using this

theorem rep_set_ref (t : List Int) (x : Int) : ∀ m : Nat, (List.replicate (m + 1) 0 ++ t).set m x = List.replicate m 0 ++ x :: t
  | 0 => rfl
  | m + 1 => by rw [List.replicate_succ, List.cons_append, List.set_cons_succ, rep_set_ref t x m]; rfl
theorem semigroupref01_Reverse_l0 (s : ByteArray) (hs : s.size ≤ 140737488355328) : ∀ d i : Nat, i + d = s.size → Ev (fun k => semigroupref01_Reverse.l0 k s (List.replicate d 0 ++ ((bs s).take i).reverse) i) (strOfNums (bs s).reverse) := by
  intro d
  induction d with
  | zero =>
    intro i h
    refine evStep (fun k => by rw [semigroupref01_Reverse.l0]) ?_
    refine evNeg (by omega) (evNow ?_)
    rw [List.take_of_length_le (by rw [bs_length]; omega)]; rfl
  | succ d ih =>
    intro i h
    refine evStep (fun k => by rw [semigroupref01_Reverse.l0]) ?_
    have e1 : wrap64 ((wrap64 ((s.size : Int) - 1)) - i) = (d : Int) := by unfold wrap64; omega
    rw [e1]
    refine evPos (by omega) (evPos (by omega) (evPos (by omega) (evPos ?_ ?_)))
    · simp only [List.length_append, List.length_replicate]; omega
    · rw [wrap_succ (by omega), Int.toNat_natCast, rep_set_ref]
      have := ih (i + 1) (by omega)
      rw [take_bt s (by omega), List.reverse_append] at this
      exact this
theorem semigroupref01_Reverse_ev (s : ByteArray) (hs : s.size ≤ 140737488355328) : Ev (fun k => semigroupref01_Reverse.f k s) (strOfNums (bs s).reverse) := by
  unfold semigroupref01_Reverse.f
  refine evPos (by omega) (evPos (by omega) ?_)
  have := semigroupref01_Reverse_l0 s hs s.size 0 (by omega)
  simpa using this

def okB (n : Int) (c : Int) : Bool := decide (97 ≤ c) && decide ((c - 97) % 256 < n)
def vB (w : List Int) (n : Int) : Bool := decide (1 ≤ n) && decide (n ≤ 6) && decide (w.length ≤ 2048) && w.all (okB n)
theorem okB_dig {n c : Int} (h6 : n ≤ 6) (hc : 0 ≤ c ∧ c ≤ 255) (h : okB n c = true) : 97 ≤ c ∧ c ≤ 96 + n := by
  simp only [okB, Bool.and_eq_true, decide_eq_true_eq] at h
  omega
theorem dig_okB {n c : Int} (h6 : n ≤ 6) (h0 : 97 ≤ c) (h1 : c ≤ 96 + n) : okB n c = true := by
  simp only [okB, Bool.and_eq_true, decide_eq_true_eq]
  omega
theorem vB_parts {w : List Int} {n : Int} (h : vB w n = true) : 1 ≤ n ∧ n ≤ 6 ∧ w.length ≤ 2048 ∧ ∀ c ∈ w, okB n c = true := by
  simp only [vB, Bool.and_eq_true, decide_eq_true_eq, List.all_eq_true] at h
  exact ⟨h.1.1.1, h.1.1.2, h.1.2, h.2⟩

/-- The value of a numeral, its last digit first. -/
def rv (n : Int) : List Int → Int
  | [] => 0
  | d :: r => n * rv n r + d
def dig (n : Int) (r : List Int) : Prop := ∀ d ∈ r, 1 ≤ d ∧ d ≤ n
theorem dig_cons {n d : Int} {r : List Int} : dig n (d :: r) ↔ (1 ≤ d ∧ d ≤ n) ∧ dig n r := by simp [dig]
theorem six {n : Int} (h1 : 1 ≤ n) (h6 : n ≤ 6) : n = 1 ∨ n = 2 ∨ n = 3 ∨ n = 4 ∨ n = 5 ∨ n = 6 := by omega
theorem rv_nonneg {n : Int} (h1 : 1 ≤ n) : ∀ {r : List Int}, dig n r → 0 ≤ rv n r
  | [], _ => by simp [rv]
  | d :: r, h => by
    obtain ⟨hd, hr⟩ := dig_cons.1 h
    have := rv_nonneg h1 hr
    have := Int.mul_nonneg (show 0 ≤ n by omega) this
    simp only [rv]; omega
theorem rv_len {n : Int} (h1 : 1 ≤ n) : ∀ {r : List Int}, dig n r → (r.length : Int) ≤ rv n r
  | [], _ => by simp [rv]
  | d :: r, h => by
    obtain ⟨hd, hr⟩ := dig_cons.1 h
    have h2 := rv_len h1 hr
    have h0 := rv_nonneg h1 hr
    have h3 : rv n r ≤ n * rv n r := by
      have := Int.mul_le_mul_of_nonneg_right h1 h0
      omega
    simp only [rv, List.length_cons]; omega
theorem rv_pow {n : Int} (h2 : 2 ≤ n) : ∀ {r : List Int}, dig n r → (2 : Int) ^ r.length ≤ rv n r + 1
  | [], _ => by simp [rv]
  | d :: r, h => by
    obtain ⟨hd, hr⟩ := dig_cons.1 h
    have h3 := rv_pow h2 hr
    have h0 := rv_nonneg (by omega) hr
    have h4 : 2 * rv n r ≤ n * rv n r := Int.mul_le_mul_of_nonneg_right h2 h0
    simp only [rv, List.length_cons, Int.pow_succ]; omega
theorem rv_one : ∀ {r : List Int}, dig 1 r → rv 1 r = r.length
  | [], _ => by simp [rv]
  | d :: r, h => by
    obtain ⟨hd, hr⟩ := dig_cons.1 h
    have h3 := rv_one hr
    simp only [rv, List.length_cons]; omega
theorem rv_short {n : Int} (h1 : 1 ≤ n) {r : List Int} (hr : dig n r) (hm : rv n r ≤ 4611686018427387905) (ho : n = 1 → rv n r ≤ 2049) : r.length ≤ 2049 := by
  by_cases h : n = 1
  · subst h
    have := rv_one hr
    have := ho rfl
    omega
  · have h2 := rv_pow (show 2 ≤ n by omega) hr
    by_cases h3 : r.length ≤ 2049
    · exact h3
    · exfalso
      have h4 : (2 : Int) ^ 64 ≤ 2 ^ r.length := by
        have : (2 : Nat) ^ 64 ≤ 2 ^ r.length := Nat.pow_le_pow_right (by omega) (by omega)
        exact_mod_cast this
      omega
theorem rv_ex {n : Int} (h1 : 1 ≤ n) : ∀ (b : Nat) (m : Int), 0 ≤ m → m ≤ b → ∃ r, dig n r ∧ rv n r = m := by
  intro b
  induction b with
  | zero => intro m h0 hb; exact ⟨[], by simp [dig], by simp [rv]; omega⟩
  | succ b ih =>
    intro m h0 hb
    by_cases hm : m = 0
    · exact ⟨[], by simp [dig], by simp [rv]; omega⟩
    · have hq0 : 0 ≤ (m - 1) / n := Int.ediv_nonneg (by omega) (by omega)
      have hq1 : (m - 1) / n ≤ m - 1 := Int.ediv_le_self _ (by omega)
      obtain ⟨r, hr, e⟩ := ih ((m - 1) / n) hq0 (by omega)
      have hm0 := Int.emod_nonneg (m - 1) (show n ≠ 0 by omega)
      have hm1 := Int.emod_lt_of_pos (m - 1) (show 0 < n by omega)
      refine ⟨((m - 1) % n + 1) :: r, dig_cons.2 ⟨⟨by omega, by omega⟩, hr⟩, ?_⟩
      simp only [rv, e]
      have := Int.mul_ediv_add_emod (m - 1) n
      omega
theorem rv_inj {n : Int} (h1 : 1 ≤ n) (h6 : n ≤ 6) : ∀ {r s : List Int}, dig n r → dig n s → rv n r = rv n s → r = s
  | [], [], _, _, _ => rfl
  | [], e :: s, _, hs, h => by
    have := rv_len h1 hs
    simp only [List.length_cons] at this
    have h' : (0 : Int) = rv n (e :: s) := h
    omega
  | d :: r, [], hr, _, h => by
    have := rv_len h1 hr
    simp only [List.length_cons] at this
    have h' : rv n (d :: r) = (0 : Int) := h
    omega
  | d :: r, e :: s, hr, hs, h => by
    obtain ⟨hd, hr⟩ := dig_cons.1 hr
    obtain ⟨he, hs⟩ := dig_cons.1 hs
    simp only [rv] at h
    have hh : d = e ∧ rv n r = rv n s := by rcases six h1 h6 with rfl | rfl | rfl | rfl | rfl | rfl <;> omega
    rw [hh.1, rv_inj h1 h6 hr hs hh.2]
/-- The letters of a numeral, the first digit first. -/
def fwd (r : List Int) : List Int := (r.map (· + 96)).reverse
theorem fwd_cons (d : Int) (r : List Int) : fwd (d :: r) = fwd r ++ [d + 96] := by simp [fwd]
theorem fwd_length (r : List Int) : (fwd r).length = r.length := by simp [fwd]
theorem fwd_range {n : Int} (h6 : n ≤ 6) {r : List Int} (h : dig n r) : ∀ x ∈ fwd r, 0 ≤ x ∧ x ≤ 255 := by
  intro x hx
  simp only [fwd, List.mem_reverse, List.mem_map] at hx
  obtain ⟨d, hd, rfl⟩ := hx
  have := h d hd
  omega
theorem fwd_okB {n : Int} (h6 : n ≤ 6) {r : List Int} (h : dig n r) : ∀ x ∈ fwd r, okB n x = true := by
  intro x hx
  simp only [fwd, List.mem_reverse, List.mem_map] at hx
  obtain ⟨d, hd, rfl⟩ := hx
  have := h d hd
  exact dig_okB h6 (by omega) (by omega)
theorem fwd_inj : ∀ {r s : List Int}, fwd r = fwd s → r = s := by
  intro r s h
  have h1 := List.reverse_inj.1 h
  exact List.map_inj_right (f := fun x : Int => x + 96) (fun a b h => by have h' : a + 96 = b + 96 := h; omega) |>.1 h1
/-- The digits of a word. -/
def dgs (w : List Int) : List Int := (w.map (· - 96)).reverse
theorem fwd_dgs (w : List Int) : fwd (dgs w) = w := by
  simp only [fwd, dgs, List.map_reverse, List.reverse_reverse, List.map_map]
  conv => rhs; rw [← List.map_id w]
  apply List.map_congr_left
  intro x _
  simp only [Function.comp, id]; omega
theorem dgs_dig {n : Int} (h6 : n ≤ 6) {w : List Int} (hw : ∀ c ∈ w, 0 ≤ c ∧ c ≤ 255) (h : ∀ c ∈ w, okB n c = true) : dig n (dgs w) := by
  intro d hd
  simp only [dgs, List.mem_reverse, List.mem_map] at hd
  obtain ⟨c, hc, rfl⟩ := hd
  have := okB_dig h6 (hw c hc) (h c hc)
  omega
theorem rv_order {n : Int} (h1 : 1 ≤ n) (h6 : n ≤ 6) : ∀ {r s : List Int}, dig n r → dig n s → r.length = s.length → (lessL (fwd r) (fwd s) = true ↔ rv n r < rv n s)
  | [], [], _, _, _ => by simp [fwd, lessL, rv]
  | [], _ :: _, _, _, h => by simp at h
  | _ :: _, [], _, _, h => by simp at h
  | d :: r, e :: s, hr, hs, h => by
    obtain ⟨hd, hr⟩ := dig_cons.1 hr
    obtain ⟨he, hs⟩ := dig_cons.1 hs
    have hl : r.length = s.length := by simpa using h
    rw [fwd_cons, fwd_cons, lessL_snoc _ _ _ _ (by rw [fwd_length, fwd_length]; exact hl), rv_order h1 h6 hr hs hl]
    have heq : fwd r = fwd s ↔ rv n r = rv n s := ⟨fun h => by rw [fwd_inj h], fun h => by rw [rv_inj h1 h6 hr hs h]⟩
    rw [heq]
    simp only [rv]
    rcases six h1 h6 with rfl | rfl | rfl | rfl | rfl | rfl <;> omega
theorem rv_longer {n : Int} (h1 : 1 ≤ n) (h6 : n ≤ 6) : ∀ {r s : List Int}, dig n r → dig n s → r.length < s.length → rv n r < rv n s
  | [], e :: s, _, hs, _ => by
    have := rv_len h1 hs
    simp only [List.length_cons] at this
    show (0 : Int) < rv n (e :: s)
    omega
  | [], [], _, _, h => by simp at h
  | _ :: _, [], _, _, h => by simp at h
  | d :: r, e :: s, hr, hs, h => by
    obtain ⟨hd, hr⟩ := dig_cons.1 hr
    obtain ⟨he, hs⟩ := dig_cons.1 hs
    have := rv_longer h1 h6 hr hs (by simpa using h)
    simp only [rv]
    rcases six h1 h6 with rfl | rfl | rfl | rfl | rfl | rfl <;> omega
theorem rv_cmp {n : Int} (h1 : 1 ≤ n) (h6 : n ≤ 6) {r s : List Int} (hr : dig n r) (hs : dig n s) : cmpI (fwd r) (fwd s) < 0 ↔ rv n r < rv n s := by
  rw [cmpI_neg, fwd_length, fwd_length]
  constructor
  · rintro (h | ⟨h, g⟩)
    · exact rv_longer h1 h6 hr hs h
    · exact (rv_order h1 h6 hr hs h).1 g
  · intro h
    rcases Nat.lt_trichotomy r.length s.length with l | l | l
    · exact .inl l
    · exact .inr ⟨l, (rv_order h1 h6 hr hs l).2 h⟩
    · have := rv_longer h1 h6 hs hr l
      omega

theorem word_Unrank_l0 (n : Int) (h1 : 1 ≤ n) (h6 : n ≤ 6) : ∀ (r acc : List Int), dig n r → rv n r ≤ 4611686018427387904 → acc.length + r.length ≤ 4096 → (∀ x ∈ acc, 0 ≤ x ∧ x ≤ 255) →
    Ev (fun k => word_Unrank.l0 k (rv n r) n acc) (strOfNums (fwd r ++ acc.reverse), true) := by
  intro r
  induction r with
  | nil =>
    intro acc hr hm hl ha
    refine evStep (fun k => by rw [word_Unrank.l0]) ?_
    refine evNeg (by simp [rv]) ?_
    refine evBind (word_Reverse_ev _ (by rw [strOfNums_size]; simp at hl; omega)) (evNow ?_)
    rw [bs_strOfNums ha]; rfl
  | cons d r ih =>
    intro acc hr hm hl ha
    obtain ⟨hd, hr'⟩ := dig_cons.1 hr
    have h0 := rv_nonneg h1 hr'
    have hm' : rv n (d :: r) = n * rv n r + d := rfl
    have hpos : rv n (d :: r) > 0 := by
      have := Int.mul_nonneg (show 0 ≤ n by omega) h0
      omega
    have hle : rv n r ≤ rv n (d :: r) := by
      have := Int.mul_le_mul_of_nonneg_right h1 h0
      omega
    refine evStep (fun k => by rw [word_Unrank.l0]) ?_
    refine evPos hpos (evNeg (by omega) (evPos (by omega) ?_))
    have e1 : wrap64 (rv n (d :: r) - 1) = rv n (d :: r) - 1 := wrap_id (by omega) (by omega)
    have e2 : Int.tdiv (rv n (d :: r) - 1) n = rv n r := by
      rw [Int.tdiv_eq_ediv_of_nonneg (by omega), hm']
      rcases six h1 h6 with rfl | rfl | rfl | rfl | rfl | rfl <;> omega
    have e3 : Int.tmod (rv n (d :: r) - 1) n = d - 1 := by
      rw [Int.tmod_eq_emod_of_nonneg (by omega), hm']
      rcases six h1 h6 with rfl | rfl | rfl | rfl | rfl | rfl <;> omega
    have e4 : wrap64 (rv n r) = rv n r := wrap_id (by omega) (by omega)
    have e5 : (97 + (d - 1)) % 256 = d + 96 := by omega
    rw [e1, e2, e3, e4, e5]
    have := ih (acc ++ [d + 96]) hr' (by omega) (by simp only [List.length_append, List.length_cons, List.length_nil] at hl ⊢; omega) (by
      intro x hx
      rcases List.mem_append.1 hx with h | h
      · exact ha x h
      · simp only [List.mem_singleton] at h; omega)
    rw [List.reverse_append] at this
    rw [fwd_cons, List.append_assoc]
    exact this
def mayR (m n : Int) : Bool := decide (1 ≤ n) && decide (n ≤ 6) && decide (0 ≤ m) && decide (m ≤ 4611686018427387904) && !(decide (n = 1) && decide (m > 2048))
theorem mayR_parts {m n : Int} (h : mayR m n = true) : 1 ≤ n ∧ n ≤ 6 ∧ 0 ≤ m ∧ m ≤ 4611686018427387904 ∧ (n = 1 → m ≤ 2048) := by
  simp only [mayR, Bool.and_eq_true, decide_eq_true_eq, Bool.not_eq_true', Bool.and_eq_false_iff, decide_eq_false_iff_not] at h
  refine ⟨h.1.1.1.1, h.1.1.1.2, h.1.1.2, h.1.2, fun e => ?_⟩
  have := h.2
  omega
theorem mayR_intro {m n : Int} (h : 1 ≤ n ∧ n ≤ 6 ∧ 0 ≤ m ∧ m ≤ 4611686018427387904 ∧ (n = 1 → m ≤ 2048)) : mayR m n = true := by
  simp only [mayR, Bool.and_eq_true, decide_eq_true_eq, Bool.not_eq_true', Bool.and_eq_false_iff, decide_eq_false_iff_not]
  refine ⟨⟨⟨⟨h.1, h.2.1⟩, h.2.2.1⟩, h.2.2.2.1⟩, ?_⟩
  have := h.2.2.2.2
  omega
theorem mayR_false {m n : Int} (h : mayR m n = false) : ¬ (1 ≤ n ∧ n ≤ 6 ∧ 0 ≤ m ∧ m ≤ 4611686018427387904 ∧ (n = 1 → m ≤ 2048)) := by
  intro h'
  rw [mayR_intro h'] at h
  simp at h
theorem word_Unrank_no {m n : Int} (h : mayR m n = false) : Ev (fun k => word_Unrank.f k m n) ((⟨#[]⟩ : ByteArray), false) := by
  have hf := mayR_false h
  unfold word_Unrank.f
  have hT : ∀ (b : Bool), b = true → Ev (fun k => word_Unrank.j0 k m n b) ((⟨#[]⟩ : ByteArray), false) := by
    intro b hb
    refine evStep (fun k => by rw [word_Unrank.j0]) ?_
    exact evPos hb (Ev.now _)
  by_cases h1 : n < 1
  · exact evPos h1 (hT _ rfl)
  · refine evNeg h1 ?_
    by_cases h2 : n > 6
    · exact evPos h2 (hT _ rfl)
    · refine evNeg h2 ?_
      by_cases h3 : m < 0
      · exact evPos h3 (hT _ rfl)
      · refine evNeg h3 ?_
        by_cases h4 : m > 4611686018427387904
        · exact evPos h4 (hT _ rfl)
        · refine evNeg h4 ?_
          by_cases h5 : n = 1
          · refine evPos h5 (hT _ (decide_eq_true ?_))
            omega
          · exfalso; exact hf ⟨by omega, by omega, by omega, by omega, fun e => absurd e h5⟩
theorem word_Unrank_yes {n : Int} {r : List Int} (hr : dig n r) (h : mayR (rv n r) n = true) : Ev (fun k => word_Unrank.f k (rv n r) n) (strOfNums (fwd r), true) := by
  obtain ⟨h1, h6, h0, hm, ho⟩ := mayR_parts h
  have hl := rv_short h1 hr (by omega) (by intro e; have := ho e; omega)
  have hT : ∀ (b : Bool), b = false → Ev (fun k => word_Unrank.j0 k (rv n r) n b) (strOfNums (fwd r), true) := by
    intro b hb
    refine evStep (fun k => by rw [word_Unrank.j0]) ?_
    refine evNeg (by rw [hb]; simp) ?_
    have := word_Unrank_l0 n h1 h6 r [] hr hm (by simp; omega) (by simp)
    simpa using this
  unfold word_Unrank.f
  refine evNeg (by omega) (evNeg (by omega) (evNeg (by omega) (evNeg (by omega) ?_)))
  by_cases h5 : n = 1
  · exact evPos h5 (hT _ (decide_eq_false (by have := ho h5; omega)))
  · exact evNeg h5 (hT _ rfl)

theorem word_Valid_l0 (s : ByteArray) (n : Int) (hs : s.size ≤ 140737488351232) : ∀ d i : Nat, i + d = s.size → Ev (fun k => word_Valid.l0 k s n i) (((bs s).drop i).all (okB n)) := by
  intro d
  induction d with
  | zero =>
    intro i h
    refine evStep (fun k => by rw [word_Valid.l0]) ?_
    refine evNeg (by omega) ?_
    rw [List.drop_eq_nil_of_le (by rw [bs_length]; omega)]
    exact evNow rfl
  | succ d ih =>
    intro i h
    refine evStep (fun k => by rw [word_Valid.l0]) ?_
    refine evPos (by omega) (evPos (by omega) ?_)
    rw [drop_bt s (by omega), List.all_cons]
    by_cases h1 : bt s i < 97
    · refine evPos h1 (evNow ?_)
      simp only [okB]
      rw [decide_eq_false (by omega)]; simp
    · refine evNeg h1 ?_
      by_cases h2 : ((bt s i) - 97) % 256 ≥ n
      · refine evPos h2 (evNow ?_)
        simp only [okB]
        rw [decide_eq_false (p := (bt s i - 97) % 256 < n) (by omega)]; simp
      · refine evNeg h2 ?_
        have hok : okB n (bt s i) = true := by simp only [okB, Bool.and_eq_true, decide_eq_true_eq]; omega
        rw [hok, Bool.true_and, wrap_succ (by omega)]
        exact ih (i + 1) (by omega)
theorem word_Valid_ev (s : ByteArray) (n : Int) (hs : s.size ≤ 140737488351232) : Ev (fun k => word_Valid.f k s n) (vB (bs s) n) := by
  unfold word_Valid.f
  have hT : ∀ (b : Bool), b = true → vB (bs s) n = false → Ev (fun k => word_Valid.j0 k s n b) (vB (bs s) n) := by
    intro b hb hv
    refine evStep (fun k => by rw [word_Valid.j0]) ?_
    exact evPos hb (evNow hv.symm)
  by_cases h1 : n < 1
  · exact evPos h1 (hT _ rfl (by simp only [vB]; rw [decide_eq_false (by omega)]; simp))
  · refine evNeg h1 ?_
    by_cases h2 : n > 6
    · exact evPos h2 (hT _ rfl (by simp only [vB]; rw [decide_eq_false (p := n ≤ 6) (by omega)]; simp))
    · refine evNeg h2 ?_
      by_cases h3 : (s.size : Int) > 2048
      · exact hT _ (decide_eq_true h3) (by simp only [vB]; rw [decide_eq_false (p := (bs s).length ≤ 2048) (by rw [bs_length]; omega)]; simp)
      · refine evStep (fun k => by rw [word_Valid.j0]) ?_
        refine evNeg (by rw [decide_eq_false h3]; simp) ?_
        refine evEq (word_Valid_l0 s n hs s.size 0 (by omega)) ?_
        simp only [vB]
        rw [decide_eq_true (p := 1 ≤ n) (by omega), decide_eq_true (p := n ≤ 6) (by omega), decide_eq_true (p := (bs s).length ≤ 2048) (by rw [bs_length]; omega)]
        simp

theorem awake_ev : Ev (fun k => semigrouplaw01_awake.f k) true := by
  unfold semigrouplaw01_awake.f
  have hd : dig 2 [1, 2] := by intro d hd; simp at hd; omega
  have e5 : rv 2 [1, 2] = 5 := by simp [rv]
  have h := word_Unrank_yes (n := 2) hd (by decide)
  rw [e5] at h
  refine evBind h (evPos rfl (evPos ?_ ?_))
  · show (strOfNums (fwd [1, 2])).toList = [98, 97]
    rw [ba_toList]; decide
  · refine evBind (word_Valid_ev _ 2 (by decide)) (evPos (by decide) ?_)
    refine evBind (word_Valid_ev _ 2 (by decide)) (evNow (by decide))
theorem awake_end : Ev (fun k => (semigrouplaw01_awake.f k).bind fun t => some t) true := evSome awake_ev


theorem WordParts : ∀ (a0 : ByteArray) (a1 : ByteArray), a0.size ≤ 1048576 → a1.size ≤ 1048576 → ∃ k, semigrouplaw01_WordParts.f k a0 a1 = some true := by
  intro u w hu hw
  refine Ev.rounds ?_
  unfold semigrouplaw01_WordParts.f
  have lu := bs_length u
  have lw := bs_length w
  have hrev : ∀ s : ByteArray, bs (strOfNums (bs s).reverse) = (bs s).reverse := fun s => bs_strOfNums (fun x hx => bs_range s x (List.mem_reverse.1 hx))
  have hsz : ∀ s : ByteArray, (strOfNums (bs s).reverse).size = s.size := fun s => by rw [strOfNums_size, List.length_reverse, bs_length]
  have hr := word_Reverse_ev w (by omega)
  have hr' := semigroupref01_Reverse_ev w (by omega)
  have hq := word_Reverse_ev u (by omega)
  have hrr := word_Reverse_ev (strOfNums (bs w).reverse) (by rw [hsz]; omega)
  rw [hrev, List.reverse_reverse, strOfNums_bs] at hrr
  obtain ⟨f, hF, hf⟩ := word_IsFactor_ev u w (by omega) (by omega)
  obtain ⟨f', hF', hf'⟩ := semigroupref01_IsFactor_ev u w (by omega) (by omega)
  obtain ⟨g, hG, hg⟩ := word_IsFactor_ev (strOfNums (bs u).reverse) (strOfNums (bs w).reverse) (by rw [hsz]; omega) (by rw [hsz]; omega)
  have hS := word_IsSubword_ev u w (by omega) (by omega)
  have hS' := semigroupref01_IsSubword_ev u w (by omega) (by omega)
  have hT := word_IsSubword_ev (strOfNums (bs u).reverse) (strOfNums (bs w).reverse) (by rw [hsz]; omega) (by rw [hsz]; omega)
  rw [hrev, hrev] at hg hT
  have e1 : f = f' := by rw [Bool.eq_iff_iff, hf, hf']
  have e2 : g = f := by rw [Bool.eq_iff_iff, hg, hf, List.reverse_infix]
  have e3 : subB (bs u).reverse (bs w).reverse = subB (bs u) (bs w) := by rw [Bool.eq_iff_iff, subB_iff, subB_iff, List.reverse_sublist]
  subst e1
  subst e2
  rw [e3] at hT
  refine evBind hr (evBind hF (evBind hS (evBind hr' (evPos rfl (evBind hF' (evNeg (by simp) (evBind hS' ?_)))))))
  refine evStep (fun k => by rw [semigrouplaw01_WordParts.j0]) ?_
  refine evNeg (by simp) (evBind hq (evBind hG (evPos (by simp) (evBind hT (evPos (by simp) ?_)))))
  by_cases hs : subB (bs u) (bs w) = true
  · exact evPos hs (evBind hrr (evPos rfl awake_end))
  · refine evNeg hs (evNeg (fun hg' => hs ?_) (evBind hrr (evPos rfl awake_end)))
    rw [subB_iff]
    exact (hf.1 hg').sublist
end Go.Proofs.Ytfjmopdkpcplmab.Pure
