/- The pure side of WordPascal: for every input the printed function answers true. Conditions: none but those of the given statement. -/
import Derived.Test.YtfjmopdkpcplmaaQWordPascalx3
import Derived.Test.YtfjmopdkpcplmaaBase
set_option linter.unusedVariables false
set_option linter.unusedSimpArgs false
namespace Go.Proofs.Ytfjmopdkpcplmaa.Pure
open Go.RowKit Go.Proofs.Ytfjmopdkpcplmaa.QWordPascal Go.Proofs.YtfjmopdkpcplmaaW.PrintWords Go.Proofs.YtfjmopdkpcplmaaW.PrintLast Go.Proofs.YtfjmopdkpcplmaaW.PrintMore Go.Proofs.Ytfjmopdkpcplmaa.Base

/-- In how many ways the first list lies in the second one: by the heads. -/
def oc : List Int → List Int → Nat
  | [], _ => 1
  | _ :: _, [] => 0
  | a :: u, b :: w => oc (a :: u) w + if a = b then oc u w else 0
theorem oc_nil (w : List Int) : oc [] w = 1 := by cases w <;> rfl
theorem oc_short : ∀ (w u : List Int), w.length < u.length → oc u w = 0
  | [], [], h => by simp at h
  | [], _ :: _, _ => rfl
  | b :: w, [], h => by simp at h
  | b :: w, a :: u, h => by
    simp only [List.length_cons] at h
    simp only [oc]
    rw [oc_short w (a :: u) (by simp; omega), oc_short w u (by omega)]; simp
def D (u w : List Int) (i k : Nat) : Int := (oc (u.take k).reverse (w.take i).reverse : Nat)
theorem D_zero (u w : List Int) (i : Nat) : D u w i 0 = 1 := by simp [D, oc_nil]
theorem D_none (u w : List Int) {i k : Nat} (hk : k ≤ u.length) (h : i < k) : D u w i k = 0 := by
  unfold D
  rw [oc_short _ _ (by simp only [List.length_reverse, List.length_take]; omega)]; rfl
theorem D_succ (u w : List Int) {i k : Nat} (hk : k < u.length) (hi : i < w.length) : D u w (i + 1) (k + 1) = D u w i (k + 1) + if u.getD k 0 = w.getD i 0 then D u w i k else 0 := by
  unfold D
  have hu : (u.take (k + 1)).reverse = u.getD k 0 :: (u.take k).reverse := by
    rw [List.take_succ_eq_append_getElem hk, List.reverse_append]; simp [List.getD_eq_getElem?_getD, hk]
  have hw : (w.take (i + 1)).reverse = w.getD i 0 :: (w.take i).reverse := by
    rw [List.take_succ_eq_append_getElem hi, List.reverse_append]; simp [List.getD_eq_getElem?_getD, hi]
  rw [hu, hw, oc]
  by_cases h : u.getD k 0 = w.getD i 0
  · rw [if_pos h, if_pos h]; simp
  · rw [if_neg h, if_neg h]; simp
theorem D_nonneg (u w : List Int) (i k : Nat) : 0 ≤ D u w i k := by unfold D; omega
theorem getD_set (xs : List Int) (j k : Nat) (v : Int) (hj : j < xs.length) : (xs.set j v).getD k 0 = if j = k then v else xs.getD k 0 := by
  rw [List.getD_eq_getElem?_getD, List.getD_eq_getElem?_getD, List.getElem?_set]
  by_cases h : j = k
  · subst h; simp [hj]
  · simp [h]
/-- Row i of the table, entries above j already of row i + 1. -/
def Row (u w : List Int) (m : Int) (i j : Nat) (xs : List Int) : Prop := xs.length = u.length + 1 ∧ ∀ k, k ≤ u.length → xs.getD k 0 = (if j < k then D u w (i + 1) k else D u w i k) % m
theorem Row.next {u w : List Int} {m : Int} {i j : Nat} {xs : List Int} (h : Row u w m i 0 xs) : Row u w m (i + 1) u.length xs := by
  refine ⟨h.1, fun k hk => ?_⟩
  rw [h.2 k hk, if_neg (show ¬ u.length < k by omega)]
  by_cases h0 : 0 < k
  · rw [if_pos h0]
  · obtain rfl : k = 0 := by omega
    rw [if_neg h0, D_zero, D_zero]
theorem Row.down {u w : List Int} {m : Int} {i : Nat} {xs : List Int} (j : Nat) (h : Row u w m i u.length xs) (hj : i + 1 ≤ j) (hju : j ≤ u.length) : Row u w m i j xs := by
  refine ⟨h.1, fun k hk => ?_⟩
  rw [h.2 k hk, if_neg (show ¬ u.length < k by omega)]
  by_cases h0 : j < k
  · rw [if_pos h0, D_none u w hk (by omega), D_none u w hk (by omega)]
  · rw [if_neg h0]
def OC (u w : List Int) (m : Int) : Int := if m < 1 ∨ m > 2147483648 then 0 else (oc u.reverse w.reverse : Nat) % m
theorem D_all (u w : List Int) : D u w w.length u.length = (oc u.reverse w.reverse : Nat) := by simp [D]

theorem word_Occurrences_l1 (u w : ByteArray) (m : Int) (hu : u.size ≤ 4000000) (hw : w.size ≤ 4000000) (h1 : 1 ≤ m) (h2 : m ≤ 2147483648) (i : Nat) (hi : i < w.size) (R : Int)
    (ih : ∀ ys, Row (bs u) (bs w) m (i + 1) (bs u).length ys → Ev (fun k => word_Occurrences.l0 k u w m ys ((i + 1 : Nat) : Int)) R) :
    ∀ (j : Nat) (xs : List Int), j ≤ u.size → Row (bs u) (bs w) m i j xs → Ev (fun k => word_Occurrences.l1 k u w m xs i j) R := by
  have lu := bs_length u
  have lw := bs_length w
  intro j
  induction j with
  | zero =>
    intro xs hj hx
    refine evStep (fun k => by rw [word_Occurrences.l1]) ?_
    refine evNeg (by omega) ?_
    rw [wrap_succ (by omega)]
    exact ih xs (hx.next (j := 0))
  | succ j jh =>
    intro xs hj hx
    have ej : wrap64 (((j + 1 : Nat) : Int) - 1) = (j : Int) := by unfold wrap64; omega
    have hl := hx.1
    refine evStep (fun k => by rw [word_Occurrences.l1]) ?_
    rw [ej]
    refine evPos (by omega) (evPos (by omega) (evPos (by omega) (evPos (by omega) (evPos (by omega) ?_))))
    have hD := D_succ (bs u) (bs w) (i := i) (k := j) (by omega) (by omega)
    have a1 := hx.2 (j + 1) (by omega)
    have a0 := hx.2 j (by omega)
    rw [if_neg (by omega)] at a1 a0
    have bu : bt u (j : Int) = (bs u).getD j 0 := by rw [bt_bs]; rfl
    have bw : bt w (i : Int) = (bs w).getD i 0 := by rw [bt_bs]; rfl
    by_cases h : bt u (j : Int) = bt w (i : Int)
    · refine evPos h (evPos (by omega) (evPos (by omega) (evPos (by omega) (evNeg (by omega) ?_))))
      refine jh _ (by omega) ⟨by rw [List.length_set]; exact hl, fun k hk => ?_⟩
      have n1 : 0 ≤ D (bs u) (bs w) i (j + 1) % m := Int.emod_nonneg _ (by omega)
      have n0 : 0 ≤ D (bs u) (bs w) i j % m := Int.emod_nonneg _ (by omega)
      have m1 : D (bs u) (bs w) i (j + 1) % m < m := Int.emod_lt_of_pos _ (by omega)
      have m0 : D (bs u) (bs w) i j % m < m := Int.emod_lt_of_pos _ (by omega)
      rw [bu, bw] at h
      rw [if_pos h] at hD
      have ev : Int.tmod (wrap64 ((rd xs ((j + 1 : Nat) : Int)) + (rd xs (j : Int)))) m = D (bs u) (bs w) (i + 1) (j + 1) % m := by
        unfold rd
        rw [Int.toNat_natCast, Int.toNat_natCast, a1, a0, wrap_id (by omega) (by omega), Int.tmod_eq_emod_of_nonneg (by omega), ← Int.add_emod, hD]
      rw [ev, Int.toNat_natCast, getD_set _ _ _ _ (by omega)]
      by_cases hk1 : j + 1 = k
      · subst hk1
        rw [if_pos rfl, if_pos (by omega)]
      · rw [if_neg hk1, hx.2 k hk]
        by_cases hk2 : j + 1 < k
        · rw [if_pos hk2, if_pos (by omega)]
        · rw [if_neg hk2, if_neg (by omega)]
    · refine evNeg h ?_
      refine jh _ (by omega) ⟨hl, fun k hk => ?_⟩
      rw [bu, bw] at h
      rw [if_neg h, Int.add_zero] at hD
      rw [hx.2 k hk]
      by_cases hk1 : j + 1 = k
      · subst hk1
        rw [if_neg (by omega), if_pos (by omega), hD]
      · by_cases hk2 : j + 1 < k
        · rw [if_pos hk2, if_pos (by omega)]
        · rw [if_neg hk2, if_neg (by omega)]
theorem word_Occurrences_l0 (u w : ByteArray) (m : Int) (hu : u.size ≤ 4000000) (hw : w.size ≤ 4000000) (h1 : 1 ≤ m) (h2 : m ≤ 2147483648) : ∀ (d i : Nat) (xs : List Int), i + d = w.size → Row (bs u) (bs w) m i (bs u).length xs →
    Ev (fun k => word_Occurrences.l0 k u w m xs i) (D (bs u) (bs w) w.size u.size % m) := by
  have lu := bs_length u
  have lw := bs_length w
  intro d
  induction d with
  | zero =>
    intro i xs h hx
    have hl := hx.1
    refine evStep (fun k => by rw [word_Occurrences.l0]) ?_
    refine evNeg (by omega) (evPos (by omega) (evPos (by omega) (evNow ?_)))
    unfold rd
    rw [Int.toNat_natCast, hx.2 u.size (by omega), if_neg (by omega)]
    rw [show i = w.size by omega]
  | succ d ih =>
    intro i xs h hx
    refine evStep (fun k => by rw [word_Occurrences.l0]) ?_
    refine evPos (by omega) ?_
    have := word_Occurrences_l1 u w m hu hw h1 h2 i (by omega) _ (fun ys hy => ih (i + 1) ys (by omega) hy)
    by_cases hm : u.size ≤ i + 1
    · have e : mn (u.size : Int) (wrap64 ((i : Int) + 1)) = (u.size : Int) := by rw [wrap_succ (by omega)]; unfold mn; rw [if_neg (by omega)]
      rw [e]
      exact this u.size xs (by omega) (by rw [← lu]; exact hx)
    · have e : mn (u.size : Int) (wrap64 ((i : Int) + 1)) = ((i + 1 : Nat) : Int) := by rw [wrap_succ (by omega)]; unfold mn; rw [if_pos (by omega)]
      rw [e]
      exact this (i + 1) xs (by omega) (hx.down (i + 1) (by omega) (by omega))
theorem word_Occurrences_ev (u w : ByteArray) (m : Int) (hu : u.size ≤ 4000000) (hw : w.size ≤ 4000000) : Ev (fun k => word_Occurrences.f k u w m) (OC (bs u) (bs w) m) := by
  have lu := bs_length u
  have lw := bs_length w
  unfold word_Occurrences.f OC
  have hT : ∀ b : Bool, b = true → Ev (fun k => word_Occurrences.j0 k u w m b) 0 := by
    intro b hb
    refine evStep (fun k => by rw [word_Occurrences.j0]) ?_
    exact evPos hb (Ev.now _)
  by_cases h1 : m < 1
  · rw [if_pos (.inl h1)]
    exact evPos h1 (hT _ rfl)
  · refine evNeg h1 ?_
    by_cases h2 : m > 2147483648
    · rw [if_pos (.inr h2)]
      exact hT _ (decide_eq_true h2)
    · rw [if_neg (by omega)]
      refine evStep (fun k => by rw [word_Occurrences.j0]) ?_
      have e1 : wrap64 ((u.size : Int) + 1) = ((u.size + 1 : Nat) : Int) := wrap_succ (by omega)
      rw [e1, Int.toNat_natCast]
      refine evNeg (by rw [decide_eq_false h2]; simp) (evPos (by omega) (evPos (by omega) (evBindC rfl (evNeg (by omega) (evPos (by simp only [List.length_replicate]; omega) ?_)))))
      have := word_Occurrences_l0 u w m hu hw (by omega) (by omega) w.size 0 ((List.replicate (u.size + 1) 0).set 0 (1 % m)) (by omega) ⟨by simp [lu], fun k hk => by
        rw [getD_set _ _ _ _ (by simp), if_neg (show ¬ (bs u).length < k by omega)]
        by_cases h0 : 0 = k
        · subst h0; rw [if_pos rfl, D_zero]
        · rw [if_neg h0, D_none _ _ hk (by omega)]
          rw [List.getD_eq_getElem?_getD, List.getElem?_replicate]
          split <;> simp⟩
      rw [show D (bs u) (bs w) w.size u.size = (oc (bs u).reverse (bs w).reverse : Nat) by rw [← lu, ← lw, D_all]] at this
      exact this

def okB (n : Int) (c : Int) : Bool := decide (97 ≤ c) && decide ((c - 97) % 256 < n)
def vB (w : List Int) (n : Int) : Bool := decide (1 ≤ n) && decide (n ≤ 6) && decide (w.length ≤ 2048) && w.all (okB n)
theorem okB_dig {n c : Int} (h6 : n ≤ 6) (hc : 0 ≤ c ∧ c ≤ 255) (h : okB n c = true) : 97 ≤ c ∧ c ≤ 96 + n := by
  simp only [okB, Bool.and_eq_true, decide_eq_true_eq] at h
  omega
theorem dig_okB {n c : Int} (h6 : n ≤ 6) (h0 : 97 ≤ c) (h1 : c ≤ 96 + n) : okB n c = true := by
  simp only [okB, Bool.and_eq_true, decide_eq_true_eq]
  omega
theorem vB_parts {w : List Int} {n : Int} (h : vB w n = true) : 1 ≤ n ∧ n ≤ 6 ∧ w.length ≤ 2048 ∧ ∀ c ∈ w, okB n c = true := by
  simp only [vB, Bool.and_eq_true, decide_eq_true_eq, List.all_eq_true] at h
  exact ⟨h.1.1.1, h.1.1.2, h.1.2, h.2⟩

/-- The value of a numeral, its last digit first. -/
def rv (n : Int) : List Int → Int
  | [] => 0
  | d :: r => n * rv n r + d
def dig (n : Int) (r : List Int) : Prop := ∀ d ∈ r, 1 ≤ d ∧ d ≤ n
theorem dig_cons {n d : Int} {r : List Int} : dig n (d :: r) ↔ (1 ≤ d ∧ d ≤ n) ∧ dig n r := by simp [dig]
theorem six {n : Int} (h1 : 1 ≤ n) (h6 : n ≤ 6) : n = 1 ∨ n = 2 ∨ n = 3 ∨ n = 4 ∨ n = 5 ∨ n = 6 := by omega
theorem rv_nonneg {n : Int} (h1 : 1 ≤ n) : ∀ {r : List Int}, dig n r → 0 ≤ rv n r
  | [], _ => by simp [rv]
  | d :: r, h => by
    obtain ⟨hd, hr⟩ := dig_cons.1 h
    have := rv_nonneg h1 hr
    have := Int.mul_nonneg (show 0 ≤ n by omega) this
    simp only [rv]; omega
theorem rv_len {n : Int} (h1 : 1 ≤ n) : ∀ {r : List Int}, dig n r → (r.length : Int) ≤ rv n r
  | [], _ => by simp [rv]
  | d :: r, h => by
    obtain ⟨hd, hr⟩ := dig_cons.1 h
    have h2 := rv_len h1 hr
    have h0 := rv_nonneg h1 hr
    have h3 : rv n r ≤ n * rv n r := by
      have := Int.mul_le_mul_of_nonneg_right h1 h0
      omega
    simp only [rv, List.length_cons]; omega
theorem rv_pow {n : Int} (h2 : 2 ≤ n) : ∀ {r : List Int}, dig n r → (2 : Int) ^ r.length ≤ rv n r + 1
  | [], _ => by simp [rv]
  | d :: r, h => by
    obtain ⟨hd, hr⟩ := dig_cons.1 h
    have h3 := rv_pow h2 hr
    have h0 := rv_nonneg (by omega) hr
    have h4 : 2 * rv n r ≤ n * rv n r := Int.mul_le_mul_of_nonneg_right h2 h0
    simp only [rv, List.length_cons, Int.pow_succ]; omega
theorem rv_one : ∀ {r : List Int}, dig 1 r → rv 1 r = r.length
  | [], _ => by simp [rv]
  | d :: r, h => by
    obtain ⟨hd, hr⟩ := dig_cons.1 h
    have h3 := rv_one hr
    simp only [rv, List.length_cons]; omega
theorem rv_short {n : Int} (h1 : 1 ≤ n) {r : List Int} (hr : dig n r) (hm : rv n r ≤ 4611686018427387905) (ho : n = 1 → rv n r ≤ 2049) : r.length ≤ 2049 := by
  by_cases h : n = 1
  · subst h
    have := rv_one hr
    have := ho rfl
    omega
  · have h2 := rv_pow (show 2 ≤ n by omega) hr
    by_cases h3 : r.length ≤ 2049
    · exact h3
    · exfalso
      have h4 : (2 : Int) ^ 64 ≤ 2 ^ r.length := by
        have : (2 : Nat) ^ 64 ≤ 2 ^ r.length := Nat.pow_le_pow_right (by omega) (by omega)
        exact_mod_cast this
      omega
theorem rv_ex {n : Int} (h1 : 1 ≤ n) : ∀ (b : Nat) (m : Int), 0 ≤ m → m ≤ b → ∃ r, dig n r ∧ rv n r = m := by
  intro b
  induction b with
  | zero => intro m h0 hb; exact ⟨[], by simp [dig], by simp [rv]; omega⟩
  | succ b ih =>
    intro m h0 hb
    by_cases hm : m = 0
    · exact ⟨[], by simp [dig], by simp [rv]; omega⟩
    · have hq0 : 0 ≤ (m - 1) / n := Int.ediv_nonneg (by omega) (by omega)
      have hq1 : (m - 1) / n ≤ m - 1 := Int.ediv_le_self _ (by omega)
      obtain ⟨r, hr, e⟩ := ih ((m - 1) / n) hq0 (by omega)
      have hm0 := Int.emod_nonneg (m - 1) (show n ≠ 0 by omega)
      have hm1 := Int.emod_lt_of_pos (m - 1) (show 0 < n by omega)
      refine ⟨((m - 1) % n + 1) :: r, dig_cons.2 ⟨⟨by omega, by omega⟩, hr⟩, ?_⟩
      simp only [rv, e]
      have := Int.mul_ediv_add_emod (m - 1) n
      omega
theorem rv_inj {n : Int} (h1 : 1 ≤ n) (h6 : n ≤ 6) : ∀ {r s : List Int}, dig n r → dig n s → rv n r = rv n s → r = s
  | [], [], _, _, _ => rfl
  | [], e :: s, _, hs, h => by
    have := rv_len h1 hs
    simp only [List.length_cons] at this
    have h' : (0 : Int) = rv n (e :: s) := h
    omega
  | d :: r, [], hr, _, h => by
    have := rv_len h1 hr
    simp only [List.length_cons] at this
    have h' : rv n (d :: r) = (0 : Int) := h
    omega
  | d :: r, e :: s, hr, hs, h => by
    obtain ⟨hd, hr⟩ := dig_cons.1 hr
    obtain ⟨he, hs⟩ := dig_cons.1 hs
    simp only [rv] at h
    have hh : d = e ∧ rv n r = rv n s := by rcases six h1 h6 with rfl | rfl | rfl | rfl | rfl | rfl <;> omega
    rw [hh.1, rv_inj h1 h6 hr hs hh.2]
/-- The letters of a numeral, the first digit first. -/
def fwd (r : List Int) : List Int := (r.map (· + 96)).reverse
theorem fwd_cons (d : Int) (r : List Int) : fwd (d :: r) = fwd r ++ [d + 96] := by simp [fwd]
theorem fwd_length (r : List Int) : (fwd r).length = r.length := by simp [fwd]
theorem fwd_range {n : Int} (h6 : n ≤ 6) {r : List Int} (h : dig n r) : ∀ x ∈ fwd r, 0 ≤ x ∧ x ≤ 255 := by
  intro x hx
  simp only [fwd, List.mem_reverse, List.mem_map] at hx
  obtain ⟨d, hd, rfl⟩ := hx
  have := h d hd
  omega
theorem fwd_okB {n : Int} (h6 : n ≤ 6) {r : List Int} (h : dig n r) : ∀ x ∈ fwd r, okB n x = true := by
  intro x hx
  simp only [fwd, List.mem_reverse, List.mem_map] at hx
  obtain ⟨d, hd, rfl⟩ := hx
  have := h d hd
  exact dig_okB h6 (by omega) (by omega)
theorem fwd_inj : ∀ {r s : List Int}, fwd r = fwd s → r = s := by
  intro r s h
  have h1 := List.reverse_inj.1 h
  exact List.map_inj_right (f := fun x : Int => x + 96) (fun a b h => by have h' : a + 96 = b + 96 := h; omega) |>.1 h1
/-- The digits of a word. -/
def dgs (w : List Int) : List Int := (w.map (· - 96)).reverse
theorem fwd_dgs (w : List Int) : fwd (dgs w) = w := by
  simp only [fwd, dgs, List.map_reverse, List.reverse_reverse, List.map_map]
  conv => rhs; rw [← List.map_id w]
  apply List.map_congr_left
  intro x _
  simp only [Function.comp, id]; omega
theorem dgs_dig {n : Int} (h6 : n ≤ 6) {w : List Int} (hw : ∀ c ∈ w, 0 ≤ c ∧ c ≤ 255) (h : ∀ c ∈ w, okB n c = true) : dig n (dgs w) := by
  intro d hd
  simp only [dgs, List.mem_reverse, List.mem_map] at hd
  obtain ⟨c, hc, rfl⟩ := hd
  have := okB_dig h6 (hw c hc) (h c hc)
  omega
theorem rv_order {n : Int} (h1 : 1 ≤ n) (h6 : n ≤ 6) : ∀ {r s : List Int}, dig n r → dig n s → r.length = s.length → (lessL (fwd r) (fwd s) = true ↔ rv n r < rv n s)
  | [], [], _, _, _ => by simp [fwd, lessL, rv]
  | [], _ :: _, _, _, h => by simp at h
  | _ :: _, [], _, _, h => by simp at h
  | d :: r, e :: s, hr, hs, h => by
    obtain ⟨hd, hr⟩ := dig_cons.1 hr
    obtain ⟨he, hs⟩ := dig_cons.1 hs
    have hl : r.length = s.length := by simpa using h
    rw [fwd_cons, fwd_cons, lessL_snoc _ _ _ _ (by rw [fwd_length, fwd_length]; exact hl), rv_order h1 h6 hr hs hl]
    have heq : fwd r = fwd s ↔ rv n r = rv n s := ⟨fun h => by rw [fwd_inj h], fun h => by rw [rv_inj h1 h6 hr hs h]⟩
    rw [heq]
    simp only [rv]
    rcases six h1 h6 with rfl | rfl | rfl | rfl | rfl | rfl <;> omega
theorem rv_longer {n : Int} (h1 : 1 ≤ n) (h6 : n ≤ 6) : ∀ {r s : List Int}, dig n r → dig n s → r.length < s.length → rv n r < rv n s
  | [], e :: s, _, hs, _ => by
    have := rv_len h1 hs
    simp only [List.length_cons] at this
    show (0 : Int) < rv n (e :: s)
    omega
  | [], [], _, _, h => by simp at h
  | _ :: _, [], _, _, h => by simp at h
  | d :: r, e :: s, hr, hs, h => by
    obtain ⟨hd, hr⟩ := dig_cons.1 hr
    obtain ⟨he, hs⟩ := dig_cons.1 hs
    have := rv_longer h1 h6 hr hs (by simpa using h)
    simp only [rv]
    rcases six h1 h6 with rfl | rfl | rfl | rfl | rfl | rfl <;> omega
theorem rv_cmp {n : Int} (h1 : 1 ≤ n) (h6 : n ≤ 6) {r s : List Int} (hr : dig n r) (hs : dig n s) : cmpI (fwd r) (fwd s) < 0 ↔ rv n r < rv n s := by
  rw [cmpI_neg, fwd_length, fwd_length]
  constructor
  · rintro (h | ⟨h, g⟩)
    · exact rv_longer h1 h6 hr hs h
    · exact (rv_order h1 h6 hr hs h).1 g
  · intro h
    rcases Nat.lt_trichotomy r.length s.length with l | l | l
    · exact .inl l
    · exact .inr ⟨l, (rv_order h1 h6 hr hs l).2 h⟩
    · have := rv_longer h1 h6 hs hr l
      omega

theorem rep_set (t : List Int) (x : Int) : ∀ m : Nat, (List.replicate (m + 1) 0 ++ t).set m x = List.replicate m 0 ++ x :: t
  | 0 => rfl
  | m + 1 => by rw [List.replicate_succ, List.cons_append, List.set_cons_succ, rep_set t x m]; rfl
theorem word_Reverse_l0 (s : ByteArray) (hs : s.size ≤ 140737488355328) : ∀ d i : Nat, i + d = s.size → Ev (fun k => word_Reverse.l0 k s (List.replicate d 0 ++ ((bs s).take i).reverse) i) (strOfNums (bs s).reverse) := by
  intro d
  induction d with
  | zero =>
    intro i h
    refine evStep (fun k => by rw [word_Reverse.l0]) ?_
    refine evNeg (by omega) (evNow ?_)
    rw [List.take_of_length_le (by rw [bs_length]; omega)]; rfl
  | succ d ih =>
    intro i h
    refine evStep (fun k => by rw [word_Reverse.l0]) ?_
    have e1 : wrap64 ((wrap64 ((s.size : Int) - 1)) - i) = (d : Int) := by unfold wrap64; omega
    rw [e1]
    refine evPos (by omega) (evPos (by omega) (evPos (by omega) (evPos ?_ ?_)))
    · simp only [List.length_append, List.length_replicate]; omega
    · rw [wrap_succ (by omega), Int.toNat_natCast, rep_set]
      have := ih (i + 1) (by omega)
      rw [take_bt s (by omega), List.reverse_append] at this
      exact this
theorem word_Reverse_ev (s : ByteArray) (hs : s.size ≤ 140737488355328) : Ev (fun k => word_Reverse.f k s) (strOfNums (bs s).reverse) := by
  unfold word_Reverse.f
  refine evPos (by omega) (evPos (by omega) ?_)
  have := word_Reverse_l0 s hs s.size 0 (by omega)
  simpa using this

theorem word_Unrank_l0 (n : Int) (h1 : 1 ≤ n) (h6 : n ≤ 6) : ∀ (r acc : List Int), dig n r → rv n r ≤ 4611686018427387904 → acc.length + r.length ≤ 4096 → (∀ x ∈ acc, 0 ≤ x ∧ x ≤ 255) →
    Ev (fun k => word_Unrank.l0 k (rv n r) n acc) (strOfNums (fwd r ++ acc.reverse), true) := by
  intro r
  induction r with
  | nil =>
    intro acc hr hm hl ha
    refine evStep (fun k => by rw [word_Unrank.l0]) ?_
    refine evNeg (by simp [rv]) ?_
    refine evBind (word_Reverse_ev _ (by rw [strOfNums_size]; simp at hl; omega)) (evNow ?_)
    rw [bs_strOfNums ha]; rfl
  | cons d r ih =>
    intro acc hr hm hl ha
    obtain ⟨hd, hr'⟩ := dig_cons.1 hr
    have h0 := rv_nonneg h1 hr'
    have hm' : rv n (d :: r) = n * rv n r + d := rfl
    have hpos : rv n (d :: r) > 0 := by
      have := Int.mul_nonneg (show 0 ≤ n by omega) h0
      omega
    have hle : rv n r ≤ rv n (d :: r) := by
      have := Int.mul_le_mul_of_nonneg_right h1 h0
      omega
    refine evStep (fun k => by rw [word_Unrank.l0]) ?_
    refine evPos hpos (evNeg (by omega) (evPos (by omega) ?_))
    have e1 : wrap64 (rv n (d :: r) - 1) = rv n (d :: r) - 1 := wrap_id (by omega) (by omega)
    have e2 : Int.tdiv (rv n (d :: r) - 1) n = rv n r := by
      rw [Int.tdiv_eq_ediv_of_nonneg (by omega), hm']
      rcases six h1 h6 with rfl | rfl | rfl | rfl | rfl | rfl <;> omega
    have e3 : Int.tmod (rv n (d :: r) - 1) n = d - 1 := by
      rw [Int.tmod_eq_emod_of_nonneg (by omega), hm']
      rcases six h1 h6 with rfl | rfl | rfl | rfl | rfl | rfl <;> omega
    have e4 : wrap64 (rv n r) = rv n r := wrap_id (by omega) (by omega)
    have e5 : (97 + (d - 1)) % 256 = d + 96 := by omega
    rw [e1, e2, e3, e4, e5]
    have := ih (acc ++ [d + 96]) hr' (by omega) (by simp only [List.length_append, List.length_cons, List.length_nil] at hl ⊢; omega) (by
      intro x hx
      rcases List.mem_append.1 hx with h | h
      · exact ha x h
      · simp only [List.mem_singleton] at h; omega)
    rw [List.reverse_append] at this
    rw [fwd_cons, List.append_assoc]
    exact this
def mayR (m n : Int) : Bool := decide (1 ≤ n) && decide (n ≤ 6) && decide (0 ≤ m) && decide (m ≤ 4611686018427387904) && !(decide (n = 1) && decide (m > 2048))
theorem mayR_parts {m n : Int} (h : mayR m n = true) : 1 ≤ n ∧ n ≤ 6 ∧ 0 ≤ m ∧ m ≤ 4611686018427387904 ∧ (n = 1 → m ≤ 2048) := by
  simp only [mayR, Bool.and_eq_true, decide_eq_true_eq, Bool.not_eq_true', Bool.and_eq_false_iff, decide_eq_false_iff_not] at h
  refine ⟨h.1.1.1.1, h.1.1.1.2, h.1.1.2, h.1.2, fun e => ?_⟩
  have := h.2
  omega
theorem mayR_intro {m n : Int} (h : 1 ≤ n ∧ n ≤ 6 ∧ 0 ≤ m ∧ m ≤ 4611686018427387904 ∧ (n = 1 → m ≤ 2048)) : mayR m n = true := by
  simp only [mayR, Bool.and_eq_true, decide_eq_true_eq, Bool.not_eq_true', Bool.and_eq_false_iff, decide_eq_false_iff_not]
  refine ⟨⟨⟨⟨h.1, h.2.1⟩, h.2.2.1⟩, h.2.2.2.1⟩, ?_⟩
  have := h.2.2.2.2
  omega
theorem mayR_false {m n : Int} (h : mayR m n = false) : ¬ (1 ≤ n ∧ n ≤ 6 ∧ 0 ≤ m ∧ m ≤ 4611686018427387904 ∧ (n = 1 → m ≤ 2048)) := by
  intro h'
  rw [mayR_intro h'] at h
  simp at h
theorem word_Unrank_no {m n : Int} (h : mayR m n = false) : Ev (fun k => word_Unrank.f k m n) ((⟨#[]⟩ : ByteArray), false) := by
  have hf := mayR_false h
  unfold word_Unrank.f
  have hT : ∀ (b : Bool), b = true → Ev (fun k => word_Unrank.j0 k m n b) ((⟨#[]⟩ : ByteArray), false) := by
    intro b hb
    refine evStep (fun k => by rw [word_Unrank.j0]) ?_
    exact evPos hb (Ev.now _)
  by_cases h1 : n < 1
  · exact evPos h1 (hT _ rfl)
  · refine evNeg h1 ?_
    by_cases h2 : n > 6
    · exact evPos h2 (hT _ rfl)
    · refine evNeg h2 ?_
      by_cases h3 : m < 0
      · exact evPos h3 (hT _ rfl)
      · refine evNeg h3 ?_
        by_cases h4 : m > 4611686018427387904
        · exact evPos h4 (hT _ rfl)
        · refine evNeg h4 ?_
          by_cases h5 : n = 1
          · refine evPos h5 (hT _ (decide_eq_true ?_))
            omega
          · exfalso; exact hf ⟨by omega, by omega, by omega, by omega, fun e => absurd e h5⟩
theorem word_Unrank_yes {n : Int} {r : List Int} (hr : dig n r) (h : mayR (rv n r) n = true) : Ev (fun k => word_Unrank.f k (rv n r) n) (strOfNums (fwd r), true) := by
  obtain ⟨h1, h6, h0, hm, ho⟩ := mayR_parts h
  have hl := rv_short h1 hr (by omega) (by intro e; have := ho e; omega)
  have hT : ∀ (b : Bool), b = false → Ev (fun k => word_Unrank.j0 k (rv n r) n b) (strOfNums (fwd r), true) := by
    intro b hb
    refine evStep (fun k => by rw [word_Unrank.j0]) ?_
    refine evNeg (by rw [hb]; simp) ?_
    have := word_Unrank_l0 n h1 h6 r [] hr hm (by simp; omega) (by simp)
    simpa using this
  unfold word_Unrank.f
  refine evNeg (by omega) (evNeg (by omega) (evNeg (by omega) (evNeg (by omega) ?_)))
  by_cases h5 : n = 1
  · exact evPos h5 (hT _ (decide_eq_false (by have := ho h5; omega)))
  · exact evNeg h5 (hT _ rfl)

theorem word_Valid_l0 (s : ByteArray) (n : Int) (hs : s.size ≤ 140737488351232) : ∀ d i : Nat, i + d = s.size → Ev (fun k => word_Valid.l0 k s n i) (((bs s).drop i).all (okB n)) := by
  intro d
  induction d with
  | zero =>
    intro i h
    refine evStep (fun k => by rw [word_Valid.l0]) ?_
    refine evNeg (by omega) ?_
    rw [List.drop_eq_nil_of_le (by rw [bs_length]; omega)]
    exact evNow rfl
  | succ d ih =>
    intro i h
    refine evStep (fun k => by rw [word_Valid.l0]) ?_
    refine evPos (by omega) (evPos (by omega) ?_)
    rw [drop_bt s (by omega), List.all_cons]
    by_cases h1 : bt s i < 97
    · refine evPos h1 (evNow ?_)
      simp only [okB]
      rw [decide_eq_false (by omega)]; simp
    · refine evNeg h1 ?_
      by_cases h2 : ((bt s i) - 97) % 256 ≥ n
      · refine evPos h2 (evNow ?_)
        simp only [okB]
        rw [decide_eq_false (p := (bt s i - 97) % 256 < n) (by omega)]; simp
      · refine evNeg h2 ?_
        have hok : okB n (bt s i) = true := by simp only [okB, Bool.and_eq_true, decide_eq_true_eq]; omega
        rw [hok, Bool.true_and, wrap_succ (by omega)]
        exact ih (i + 1) (by omega)
theorem word_Valid_ev (s : ByteArray) (n : Int) (hs : s.size ≤ 140737488351232) : Ev (fun k => word_Valid.f k s n) (vB (bs s) n) := by
  unfold word_Valid.f
  have hT : ∀ (b : Bool), b = true → vB (bs s) n = false → Ev (fun k => word_Valid.j0 k s n b) (vB (bs s) n) := by
    intro b hb hv
    refine evStep (fun k => by rw [word_Valid.j0]) ?_
    exact evPos hb (evNow hv.symm)
  by_cases h1 : n < 1
  · exact evPos h1 (hT _ rfl (by simp only [vB]; rw [decide_eq_false (by omega)]; simp))
  · refine evNeg h1 ?_
    by_cases h2 : n > 6
    · exact evPos h2 (hT _ rfl (by simp only [vB]; rw [decide_eq_false (p := n ≤ 6) (by omega)]; simp))
    · refine evNeg h2 ?_
      by_cases h3 : (s.size : Int) > 2048
      · exact hT _ (decide_eq_true h3) (by simp only [vB]; rw [decide_eq_false (p := (bs s).length ≤ 2048) (by rw [bs_length]; omega)]; simp)
      · refine evStep (fun k => by rw [word_Valid.j0]) ?_
        refine evNeg (by rw [decide_eq_false h3]; simp) ?_
        refine evEq (word_Valid_l0 s n hs s.size 0 (by omega)) ?_
        simp only [vB]
        rw [decide_eq_true (p := 1 ≤ n) (by omega), decide_eq_true (p := n ≤ 6) (by omega), decide_eq_true (p := (bs s).length ≤ 2048) (by rw [bs_length]; omega)]
        simp

theorem awake_ev : Ev (fun k => semigrouplaw01_awake.f k) true := by
  unfold semigrouplaw01_awake.f
  have hd : dig 2 [1, 2] := by intro d hd; simp at hd; omega
  have e5 : rv 2 [1, 2] = 5 := by simp [rv]
  have h := word_Unrank_yes (n := 2) hd (by decide)
  rw [e5] at h
  refine evBind h (evPos rfl (evPos ?_ ?_))
  · show (strOfNums (fwd [1, 2])).toList = [98, 97]
    rw [ba_toList]; decide
  · refine evBind (word_Valid_ev _ 2 (by decide)) (evPos (by decide) ?_)
    refine evBind (word_Valid_ev _ 2 (by decide)) (evNow (by decide))
theorem awake_end : Ev (fun k => (semigrouplaw01_awake.f k).bind fun t => some t) true := evSome awake_ev

theorem OC_at {m : Int} (h1 : 1 ≤ m) (h2 : m ≤ 2147483648) (x y : List Int) : OC x y m = ((oc x.reverse y.reverse : Nat) : Int) % m := by
  unfold OC; rw [if_neg (by omega)]
theorem u8_range {x : Int} (h : (Lit.int .u8 x).wf = true) : 0 ≤ x ∧ x ≤ 255 := by
  simp [Lit.wf, IntKind.min, IntKind.max, IntKind.signed, IntKind.bits] at h
  omega
theorem OC_snoc {m : Int} (h1 : 1 ≤ m) (h2 : m ≤ 2147483648) (u w : List Int) (a b : Int) :
    OC (u ++ [a]) (w ++ [b]) m = (if a = b then (OC (u ++ [a]) w m + OC u w m) % m else OC (u ++ [a]) w m) := by
  rw [OC_at h1 h2, OC_at h1 h2, OC_at h1 h2, List.reverse_append, List.reverse_append]
  simp only [List.reverse_singleton, List.singleton_append, oc]
  by_cases h : a = b
  · rw [if_pos h, if_pos h, ← Int.add_emod, Int.natCast_add]
  · rw [if_neg h, if_neg h, Nat.add_zero]
theorem pascal_j1 (u w x y : ByteArray) (m v : Int) (hu : u.size ≤ 30) (hw : w.size ≤ 100) (hx : x.size = 1) (hy : y.size = 1) (h1 : 1 ≤ m) (h2 : m ≤ 2147483648) (hv : OC (bs u ++ bs x) (bs w ++ bs y) m = v) :
    Ev (fun k => semigrouplaw01_WordPascal.j1 k u w m x y v) true := by
  have a1 := word_Occurrences_ev (u ++ x) (w ++ y) m (by rw [ByteArray.size_append]; omega) (by rw [ByteArray.size_append]; omega)
  have a2 := word_Occurrences_ev (⟨#[]⟩ : ByteArray) w m (by show 0 ≤ 4000000; omega) (by omega)
  rw [bs_append, bs_append, hv] at a1
  have e : OC (bs (⟨#[]⟩ : ByteArray)) (bs w) m = (1 : Int) % m := by
    rw [OC_at h1 h2]; show ((oc [].reverse (bs w).reverse : Nat) : Int) % m = _; rw [List.reverse_nil, oc_nil]; rfl
  rw [e] at a2
  refine evStep (fun k => by rw [semigrouplaw01_WordPascal.j1]) ?_
  exact evPos (by omega) (evPos (by omega) (evBind a1 (evPos rfl (evBind a2 (evNeg (by omega) (evPos rfl awake_end))))))
theorem pascal_j0 (u w : ByteArray) (a b m : Int) (hu : u.size ≤ 30) (hw : w.size ≤ 100) (ha : 0 ≤ a ∧ a ≤ 255) (hb : 0 ≤ b ∧ b ≤ 255) (h1 : 1 ≤ m) (h2 : m ≤ 2147483648) (f : Bool) (hf : f = false) :
    Ev (fun k => semigrouplaw01_WordPascal.j0 k u w a b m f) true := by
  have ea : bs (strOfNums [a]) = [a] := bs_strOfNums (by intro x hx; simp at hx; omega)
  have eb : bs (strOfNums [b]) = [b] := bs_strOfNums (by intro x hx; simp at hx; omega)
  have sa : (strOfNums [a]).size = 1 := strOfNums_size _
  have sb : (strOfNums [b]).size = 1 := strOfNums_size _
  have hS := OC_snoc h1 h2 (bs u) (bs w) a b
  have a1 := word_Occurrences_ev (u ++ strOfNums [a]) w m (by rw [ByteArray.size_append]; omega) (by omega)
  have a2 := word_Occurrences_ev u w m (by omega) (by omega)
  rw [bs_append, ea] at a1
  have n1 : 0 ≤ OC (bs u ++ [a]) (bs w) m := by rw [OC_at h1 h2]; exact Int.emod_nonneg _ (by omega)
  have m1 : OC (bs u ++ [a]) (bs w) m < m := by rw [OC_at h1 h2]; exact Int.emod_lt_of_pos _ (by omega)
  have n2 : 0 ≤ OC (bs u) (bs w) m := by rw [OC_at h1 h2]; exact Int.emod_nonneg _ (by omega)
  have m2 : OC (bs u) (bs w) m < m := by rw [OC_at h1 h2]; exact Int.emod_lt_of_pos _ (by omega)
  refine evStep (fun k => by rw [semigrouplaw01_WordPascal.j0]) ?_
  refine evNeg (by rw [hf]; simp) (evBindC rfl (evBindC rfl (evPos (by omega) (evBind a1 ?_))))
  by_cases h : a = b
  · rw [if_pos h] at hS
    refine evPos h (evBind a2 (evNeg (by omega) ?_))
    rw [wrap_id (by omega) (by omega), Int.tmod_eq_emod_of_nonneg (by omega)]
    exact pascal_j1 u w _ _ m _ hu hw sa sb h1 h2 (by rw [ea, eb]; exact hS)
  · rw [if_neg h] at hS
    exact evNeg h (pascal_j1 u w _ _ m _ hu hw sa sb h1 h2 (by rw [ea, eb]; exact hS))

theorem cut_ev (s : ByteArray) (c : Nat) : ∃ t, semigrouplaw01_cut.f s c = some t ∧ t.size ≤ c ∧ t.size ≤ s.size := by
  unfold semigrouplaw01_cut.f mn
  by_cases h : (c : Int) < s.size
  · simp only [if_pos h]
    rw [if_pos (by omega), if_pos (by omega)]
    refine ⟨_, rfl, ?_, ?_⟩
    · rw [ByteArray.size_extract]; omega
    · rw [ByteArray.size_extract]; omega
  · simp only [if_neg h]
    rw [if_pos (by omega), if_pos (by omega)]
    refine ⟨_, rfl, ?_, ?_⟩
    · rw [ByteArray.size_extract]; omega
    · rw [ByteArray.size_extract]; omega


theorem WordPascal : semigrouplaw01_WordPascal.Pure := by
  intro u w a b m hu hw ha hb hm
  have ha := u8_range ha
  have hb := u8_range hb
  refine Ev.rounds ?_
  unfold semigrouplaw01_WordPascal.f
  obtain ⟨u, hu', hs, _⟩ := cut_ev u 30
  obtain ⟨w, hw', ht, _⟩ := cut_ev w 100
  refine evBindC hu' (evBindC hw' ?_)
  have hT : ∀ f : Bool, f = true → (m < 1 ∨ m > 2147483648) → Ev (fun k => semigrouplaw01_WordPascal.j0 k u w a b m f) true := by
    intro f hf hm
    have a1 := word_Occurrences_ev u w m (by omega) (by omega)
    have e : OC (bs u) (bs w) m = 0 := by unfold OC; rw [if_pos hm]
    rw [e] at a1
    refine evStep (fun k => by rw [semigrouplaw01_WordPascal.j0]) ?_
    exact evPos hf (evBind a1 (evPos rfl awake_end))
  by_cases h1 : m < 1
  · exact evPos h1 (hT _ rfl (.inl h1))
  refine evNeg h1 ?_
  by_cases h2 : m > 2147483648
  · exact hT _ (decide_eq_true h2) (.inr h2)
  exact pascal_j0 u w a b m hs ht ha hb (by omega) (by omega) _ (decide_eq_false h2)
end Go.Proofs.Ytfjmopdkpcplmaa.Pure
