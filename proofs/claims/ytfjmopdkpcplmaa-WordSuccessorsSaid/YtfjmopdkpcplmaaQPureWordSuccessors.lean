/- The pure side of WordSuccessors: for every input the printed function answers true. Conditions: none but those of the given statement. -/
import Derived.Test.YtfjmopdkpcplmaaQWordSuccessorsx2
import Derived.Test.YtfjmopdkpcplmaaBase
set_option linter.unusedVariables false
set_option linter.unusedSimpArgs false
namespace Go.Proofs.Ytfjmopdkpcplmaa.Pure
open Go.RowKit Go.Proofs.Ytfjmopdkpcplmaa.QWordSuccessors Go.Proofs.YtfjmopdkpcplmaaW.PrintWords Go.Proofs.YtfjmopdkpcplmaaW.PrintLast Go.Proofs.YtfjmopdkpcplmaaW.PrintMore Go.Proofs.Ytfjmopdkpcplmaa.Base

theorem word_Compare_ev (u v : ByteArray) : Ev (fun k => word_Compare.f k u v) (cmpI (bs u) (bs v)) := by
  have hl := bs_length u
  have hl' := bs_length v
  unfold word_Compare.f
  by_cases h : (u.size : Int) = v.size
  · have e : cmpI (bs u) (bs v) = if lessL (bs u) (bs v) = true then -1 else if lessL (bs v) (bs u) = true then 1 else 0 := by
      unfold cmpI; rw [if_pos (by omega)]
    have hJ : ∀ b : Bool, b = false → Ev (fun k => word_Compare.j0 k u v b) (cmpI (bs u) (bs v)) := by
      intro b hb
      refine evStep (fun k => by rw [word_Compare.j0]) ?_
      refine evNeg (by rw [hb]; simp) (evPos h ?_)
      rw [bytesLess_bs, bytesLess_bs]
      by_cases h1 : lessL (bs u) (bs v) = true
      · rw [if_pos h1] at e
        exact evPos h1 (evNow e.symm)
      · rw [if_neg h1] at e
        refine evNeg h1 ?_
        by_cases h2 : lessL (bs v) (bs u) = true
        · rw [if_pos h2] at e
          exact evPos h2 (evNow e.symm)
        · rw [if_neg h2] at e
          exact evNeg h2 (evNow e.symm)
    exact evPos h (hJ _ rfl)
  · have e : cmpI (bs u) (bs v) = if (bs u).length < (bs v).length then -1 else 1 := by
      unfold cmpI; rw [if_neg (by omega)]
    refine evNeg h ?_
    refine evStep (fun k => by rw [word_Compare.j0]) ?_
    by_cases h1 : (u.size : Int) < v.size
    · rw [if_pos (by omega)] at e
      exact evPos (decide_eq_true h1) (evNow e.symm)
    · rw [if_neg (by omega)] at e
      exact evNeg (by rw [decide_eq_false h1]; simp) (evNeg h (evNow e.symm))

def okB (n : Int) (c : Int) : Bool := decide (97 ≤ c) && decide ((c - 97) % 256 < n)
def vB (w : List Int) (n : Int) : Bool := decide (1 ≤ n) && decide (n ≤ 6) && decide (w.length ≤ 2048) && w.all (okB n)
theorem okB_dig {n c : Int} (h6 : n ≤ 6) (hc : 0 ≤ c ∧ c ≤ 255) (h : okB n c = true) : 97 ≤ c ∧ c ≤ 96 + n := by
  simp only [okB, Bool.and_eq_true, decide_eq_true_eq] at h
  omega
theorem dig_okB {n c : Int} (h6 : n ≤ 6) (h0 : 97 ≤ c) (h1 : c ≤ 96 + n) : okB n c = true := by
  simp only [okB, Bool.and_eq_true, decide_eq_true_eq]
  omega
theorem vB_parts {w : List Int} {n : Int} (h : vB w n = true) : 1 ≤ n ∧ n ≤ 6 ∧ w.length ≤ 2048 ∧ ∀ c ∈ w, okB n c = true := by
  simp only [vB, Bool.and_eq_true, decide_eq_true_eq, List.all_eq_true] at h
  exact ⟨h.1.1.1, h.1.1.2, h.1.2, h.2⟩

/-- The value of a numeral, its last digit first. -/
def rv (n : Int) : List Int → Int
  | [] => 0
  | d :: r => n * rv n r + d
def dig (n : Int) (r : List Int) : Prop := ∀ d ∈ r, 1 ≤ d ∧ d ≤ n
theorem dig_cons {n d : Int} {r : List Int} : dig n (d :: r) ↔ (1 ≤ d ∧ d ≤ n) ∧ dig n r := by simp [dig]
theorem six {n : Int} (h1 : 1 ≤ n) (h6 : n ≤ 6) : n = 1 ∨ n = 2 ∨ n = 3 ∨ n = 4 ∨ n = 5 ∨ n = 6 := by omega
theorem rv_nonneg {n : Int} (h1 : 1 ≤ n) : ∀ {r : List Int}, dig n r → 0 ≤ rv n r
  | [], _ => by simp [rv]
  | d :: r, h => by
    obtain ⟨hd, hr⟩ := dig_cons.1 h
    have := rv_nonneg h1 hr
    have := Int.mul_nonneg (show 0 ≤ n by omega) this
    simp only [rv]; omega
theorem rv_len {n : Int} (h1 : 1 ≤ n) : ∀ {r : List Int}, dig n r → (r.length : Int) ≤ rv n r
  | [], _ => by simp [rv]
  | d :: r, h => by
    obtain ⟨hd, hr⟩ := dig_cons.1 h
    have h2 := rv_len h1 hr
    have h0 := rv_nonneg h1 hr
    have h3 : rv n r ≤ n * rv n r := by
      have := Int.mul_le_mul_of_nonneg_right h1 h0
      omega
    simp only [rv, List.length_cons]; omega
theorem rv_pow {n : Int} (h2 : 2 ≤ n) : ∀ {r : List Int}, dig n r → (2 : Int) ^ r.length ≤ rv n r + 1
  | [], _ => by simp [rv]
  | d :: r, h => by
    obtain ⟨hd, hr⟩ := dig_cons.1 h
    have h3 := rv_pow h2 hr
    have h0 := rv_nonneg (by omega) hr
    have h4 : 2 * rv n r ≤ n * rv n r := Int.mul_le_mul_of_nonneg_right h2 h0
    simp only [rv, List.length_cons, Int.pow_succ]; omega
theorem rv_one : ∀ {r : List Int}, dig 1 r → rv 1 r = r.length
  | [], _ => by simp [rv]
  | d :: r, h => by
    obtain ⟨hd, hr⟩ := dig_cons.1 h
    have h3 := rv_one hr
    simp only [rv, List.length_cons]; omega
theorem rv_short {n : Int} (h1 : 1 ≤ n) {r : List Int} (hr : dig n r) (hm : rv n r ≤ 4611686018427387905) (ho : n = 1 → rv n r ≤ 2049) : r.length ≤ 2049 := by
  by_cases h : n = 1
  · subst h
    have := rv_one hr
    have := ho rfl
    omega
  · have h2 := rv_pow (show 2 ≤ n by omega) hr
    by_cases h3 : r.length ≤ 2049
    · exact h3
    · exfalso
      have h4 : (2 : Int) ^ 64 ≤ 2 ^ r.length := by
        have : (2 : Nat) ^ 64 ≤ 2 ^ r.length := Nat.pow_le_pow_right (by omega) (by omega)
        exact_mod_cast this
      omega
theorem rv_ex {n : Int} (h1 : 1 ≤ n) : ∀ (b : Nat) (m : Int), 0 ≤ m → m ≤ b → ∃ r, dig n r ∧ rv n r = m := by
  intro b
  induction b with
  | zero => intro m h0 hb; exact ⟨[], by simp [dig], by simp [rv]; omega⟩
  | succ b ih =>
    intro m h0 hb
    by_cases hm : m = 0
    · exact ⟨[], by simp [dig], by simp [rv]; omega⟩
    · have hq0 : 0 ≤ (m - 1) / n := Int.ediv_nonneg (by omega) (by omega)
      have hq1 : (m - 1) / n ≤ m - 1 := Int.ediv_le_self _ (by omega)
      obtain ⟨r, hr, e⟩ := ih ((m - 1) / n) hq0 (by omega)
      have hm0 := Int.emod_nonneg (m - 1) (show n ≠ 0 by omega)
      have hm1 := Int.emod_lt_of_pos (m - 1) (show 0 < n by omega)
      refine ⟨((m - 1) % n + 1) :: r, dig_cons.2 ⟨⟨by omega, by omega⟩, hr⟩, ?_⟩
      simp only [rv, e]
      have := Int.mul_ediv_add_emod (m - 1) n
      omega
theorem rv_inj {n : Int} (h1 : 1 ≤ n) (h6 : n ≤ 6) : ∀ {r s : List Int}, dig n r → dig n s → rv n r = rv n s → r = s
  | [], [], _, _, _ => rfl
  | [], e :: s, _, hs, h => by
    have := rv_len h1 hs
    simp only [List.length_cons] at this
    have h' : (0 : Int) = rv n (e :: s) := h
    omega
  | d :: r, [], hr, _, h => by
    have := rv_len h1 hr
    simp only [List.length_cons] at this
    have h' : rv n (d :: r) = (0 : Int) := h
    omega
  | d :: r, e :: s, hr, hs, h => by
    obtain ⟨hd, hr⟩ := dig_cons.1 hr
    obtain ⟨he, hs⟩ := dig_cons.1 hs
    simp only [rv] at h
    have hh : d = e ∧ rv n r = rv n s := by rcases six h1 h6 with rfl | rfl | rfl | rfl | rfl | rfl <;> omega
    rw [hh.1, rv_inj h1 h6 hr hs hh.2]
/-- The letters of a numeral, the first digit first. -/
def fwd (r : List Int) : List Int := (r.map (· + 96)).reverse
theorem fwd_cons (d : Int) (r : List Int) : fwd (d :: r) = fwd r ++ [d + 96] := by simp [fwd]
theorem fwd_length (r : List Int) : (fwd r).length = r.length := by simp [fwd]
theorem fwd_range {n : Int} (h6 : n ≤ 6) {r : List Int} (h : dig n r) : ∀ x ∈ fwd r, 0 ≤ x ∧ x ≤ 255 := by
  intro x hx
  simp only [fwd, List.mem_reverse, List.mem_map] at hx
  obtain ⟨d, hd, rfl⟩ := hx
  have := h d hd
  omega
theorem fwd_okB {n : Int} (h6 : n ≤ 6) {r : List Int} (h : dig n r) : ∀ x ∈ fwd r, okB n x = true := by
  intro x hx
  simp only [fwd, List.mem_reverse, List.mem_map] at hx
  obtain ⟨d, hd, rfl⟩ := hx
  have := h d hd
  exact dig_okB h6 (by omega) (by omega)
theorem fwd_inj : ∀ {r s : List Int}, fwd r = fwd s → r = s := by
  intro r s h
  have h1 := List.reverse_inj.1 h
  exact List.map_inj_right (f := fun x : Int => x + 96) (fun a b h => by have h' : a + 96 = b + 96 := h; omega) |>.1 h1
/-- The digits of a word. -/
def dgs (w : List Int) : List Int := (w.map (· - 96)).reverse
theorem fwd_dgs (w : List Int) : fwd (dgs w) = w := by
  simp only [fwd, dgs, List.map_reverse, List.reverse_reverse, List.map_map]
  conv => rhs; rw [← List.map_id w]
  apply List.map_congr_left
  intro x _
  simp only [Function.comp, id]; omega
theorem dgs_dig {n : Int} (h6 : n ≤ 6) {w : List Int} (hw : ∀ c ∈ w, 0 ≤ c ∧ c ≤ 255) (h : ∀ c ∈ w, okB n c = true) : dig n (dgs w) := by
  intro d hd
  simp only [dgs, List.mem_reverse, List.mem_map] at hd
  obtain ⟨c, hc, rfl⟩ := hd
  have := okB_dig h6 (hw c hc) (h c hc)
  omega
theorem rv_order {n : Int} (h1 : 1 ≤ n) (h6 : n ≤ 6) : ∀ {r s : List Int}, dig n r → dig n s → r.length = s.length → (lessL (fwd r) (fwd s) = true ↔ rv n r < rv n s)
  | [], [], _, _, _ => by simp [fwd, lessL, rv]
  | [], _ :: _, _, _, h => by simp at h
  | _ :: _, [], _, _, h => by simp at h
  | d :: r, e :: s, hr, hs, h => by
    obtain ⟨hd, hr⟩ := dig_cons.1 hr
    obtain ⟨he, hs⟩ := dig_cons.1 hs
    have hl : r.length = s.length := by simpa using h
    rw [fwd_cons, fwd_cons, lessL_snoc _ _ _ _ (by rw [fwd_length, fwd_length]; exact hl), rv_order h1 h6 hr hs hl]
    have heq : fwd r = fwd s ↔ rv n r = rv n s := ⟨fun h => by rw [fwd_inj h], fun h => by rw [rv_inj h1 h6 hr hs h]⟩
    rw [heq]
    simp only [rv]
    rcases six h1 h6 with rfl | rfl | rfl | rfl | rfl | rfl <;> omega
theorem rv_longer {n : Int} (h1 : 1 ≤ n) (h6 : n ≤ 6) : ∀ {r s : List Int}, dig n r → dig n s → r.length < s.length → rv n r < rv n s
  | [], e :: s, _, hs, _ => by
    have := rv_len h1 hs
    simp only [List.length_cons] at this
    show (0 : Int) < rv n (e :: s)
    omega
  | [], [], _, _, h => by simp at h
  | _ :: _, [], _, _, h => by simp at h
  | d :: r, e :: s, hr, hs, h => by
    obtain ⟨hd, hr⟩ := dig_cons.1 hr
    obtain ⟨he, hs⟩ := dig_cons.1 hs
    have := rv_longer h1 h6 hr hs (by simpa using h)
    simp only [rv]
    rcases six h1 h6 with rfl | rfl | rfl | rfl | rfl | rfl <;> omega
theorem rv_cmp {n : Int} (h1 : 1 ≤ n) (h6 : n ≤ 6) {r s : List Int} (hr : dig n r) (hs : dig n s) : cmpI (fwd r) (fwd s) < 0 ↔ rv n r < rv n s := by
  rw [cmpI_neg, fwd_length, fwd_length]
  constructor
  · rintro (h | ⟨h, g⟩)
    · exact rv_longer h1 h6 hr hs h
    · exact (rv_order h1 h6 hr hs h).1 g
  · intro h
    rcases Nat.lt_trichotomy r.length s.length with l | l | l
    · exact .inl l
    · exact .inr ⟨l, (rv_order h1 h6 hr hs l).2 h⟩
    · have := rv_longer h1 h6 hs hr l
      omega

theorem rep_set (t : List Int) (x : Int) : ∀ m : Nat, (List.replicate (m + 1) 0 ++ t).set m x = List.replicate m 0 ++ x :: t
  | 0 => rfl
  | m + 1 => by rw [List.replicate_succ, List.cons_append, List.set_cons_succ, rep_set t x m]; rfl
theorem word_Reverse_l0 (s : ByteArray) (hs : s.size ≤ 140737488355328) : ∀ d i : Nat, i + d = s.size → Ev (fun k => word_Reverse.l0 k s (List.replicate d 0 ++ ((bs s).take i).reverse) i) (strOfNums (bs s).reverse) := by
  intro d
  induction d with
  | zero =>
    intro i h
    refine evStep (fun k => by rw [word_Reverse.l0]) ?_
    refine evNeg (by omega) (evNow ?_)
    rw [List.take_of_length_le (by rw [bs_length]; omega)]; rfl
  | succ d ih =>
    intro i h
    refine evStep (fun k => by rw [word_Reverse.l0]) ?_
    have e1 : wrap64 ((wrap64 ((s.size : Int) - 1)) - i) = (d : Int) := by unfold wrap64; omega
    rw [e1]
    refine evPos (by omega) (evPos (by omega) (evPos (by omega) (evPos ?_ ?_)))
    · simp only [List.length_append, List.length_replicate]; omega
    · rw [wrap_succ (by omega), Int.toNat_natCast, rep_set]
      have := ih (i + 1) (by omega)
      rw [take_bt s (by omega), List.reverse_append] at this
      exact this
theorem word_Reverse_ev (s : ByteArray) (hs : s.size ≤ 140737488355328) : Ev (fun k => word_Reverse.f k s) (strOfNums (bs s).reverse) := by
  unfold word_Reverse.f
  refine evPos (by omega) (evPos (by omega) ?_)
  have := word_Reverse_l0 s hs s.size 0 (by omega)
  simpa using this

theorem word_Unrank_l0 (n : Int) (h1 : 1 ≤ n) (h6 : n ≤ 6) : ∀ (r acc : List Int), dig n r → rv n r ≤ 4611686018427387904 → acc.length + r.length ≤ 4096 → (∀ x ∈ acc, 0 ≤ x ∧ x ≤ 255) →
    Ev (fun k => word_Unrank.l0 k (rv n r) n acc) (strOfNums (fwd r ++ acc.reverse), true) := by
  intro r
  induction r with
  | nil =>
    intro acc hr hm hl ha
    refine evStep (fun k => by rw [word_Unrank.l0]) ?_
    refine evNeg (by simp [rv]) ?_
    refine evBind (word_Reverse_ev _ (by rw [strOfNums_size]; simp at hl; omega)) (evNow ?_)
    rw [bs_strOfNums ha]; rfl
  | cons d r ih =>
    intro acc hr hm hl ha
    obtain ⟨hd, hr'⟩ := dig_cons.1 hr
    have h0 := rv_nonneg h1 hr'
    have hm' : rv n (d :: r) = n * rv n r + d := rfl
    have hpos : rv n (d :: r) > 0 := by
      have := Int.mul_nonneg (show 0 ≤ n by omega) h0
      omega
    have hle : rv n r ≤ rv n (d :: r) := by
      have := Int.mul_le_mul_of_nonneg_right h1 h0
      omega
    refine evStep (fun k => by rw [word_Unrank.l0]) ?_
    refine evPos hpos (evNeg (by omega) (evPos (by omega) ?_))
    have e1 : wrap64 (rv n (d :: r) - 1) = rv n (d :: r) - 1 := wrap_id (by omega) (by omega)
    have e2 : Int.tdiv (rv n (d :: r) - 1) n = rv n r := by
      rw [Int.tdiv_eq_ediv_of_nonneg (by omega), hm']
      rcases six h1 h6 with rfl | rfl | rfl | rfl | rfl | rfl <;> omega
    have e3 : Int.tmod (rv n (d :: r) - 1) n = d - 1 := by
      rw [Int.tmod_eq_emod_of_nonneg (by omega), hm']
      rcases six h1 h6 with rfl | rfl | rfl | rfl | rfl | rfl <;> omega
    have e4 : wrap64 (rv n r) = rv n r := wrap_id (by omega) (by omega)
    have e5 : (97 + (d - 1)) % 256 = d + 96 := by omega
    rw [e1, e2, e3, e4, e5]
    have := ih (acc ++ [d + 96]) hr' (by omega) (by simp only [List.length_append, List.length_cons, List.length_nil] at hl ⊢; omega) (by
      intro x hx
      rcases List.mem_append.1 hx with h | h
      · exact ha x h
      · simp only [List.mem_singleton] at h; omega)
    rw [List.reverse_append] at this
    rw [fwd_cons, List.append_assoc]
    exact this
def mayR (m n : Int) : Bool := decide (1 ≤ n) && decide (n ≤ 6) && decide (0 ≤ m) && decide (m ≤ 4611686018427387904) && !(decide (n = 1) && decide (m > 2048))
theorem mayR_parts {m n : Int} (h : mayR m n = true) : 1 ≤ n ∧ n ≤ 6 ∧ 0 ≤ m ∧ m ≤ 4611686018427387904 ∧ (n = 1 → m ≤ 2048) := by
  simp only [mayR, Bool.and_eq_true, decide_eq_true_eq, Bool.not_eq_true', Bool.and_eq_false_iff, decide_eq_false_iff_not] at h
  refine ⟨h.1.1.1.1, h.1.1.1.2, h.1.1.2, h.1.2, fun e => ?_⟩
  have := h.2
  omega
theorem mayR_intro {m n : Int} (h : 1 ≤ n ∧ n ≤ 6 ∧ 0 ≤ m ∧ m ≤ 4611686018427387904 ∧ (n = 1 → m ≤ 2048)) : mayR m n = true := by
  simp only [mayR, Bool.and_eq_true, decide_eq_true_eq, Bool.not_eq_true', Bool.and_eq_false_iff, decide_eq_false_iff_not]
  refine ⟨⟨⟨⟨h.1, h.2.1⟩, h.2.2.1⟩, h.2.2.2.1⟩, ?_⟩
  have := h.2.2.2.2
  omega
theorem mayR_false {m n : Int} (h : mayR m n = false) : ¬ (1 ≤ n ∧ n ≤ 6 ∧ 0 ≤ m ∧ m ≤ 4611686018427387904 ∧ (n = 1 → m ≤ 2048)) := by
  intro h'
  rw [mayR_intro h'] at h
  simp at h
theorem word_Unrank_no {m n : Int} (h : mayR m n = false) : Ev (fun k => word_Unrank.f k m n) ((⟨#[]⟩ : ByteArray), false) := by
  have hf := mayR_false h
  unfold word_Unrank.f
  have hT : ∀ (b : Bool), b = true → Ev (fun k => word_Unrank.j0 k m n b) ((⟨#[]⟩ : ByteArray), false) := by
    intro b hb
    refine evStep (fun k => by rw [word_Unrank.j0]) ?_
    exact evPos hb (Ev.now _)
  by_cases h1 : n < 1
  · exact evPos h1 (hT _ rfl)
  · refine evNeg h1 ?_
    by_cases h2 : n > 6
    · exact evPos h2 (hT _ rfl)
    · refine evNeg h2 ?_
      by_cases h3 : m < 0
      · exact evPos h3 (hT _ rfl)
      · refine evNeg h3 ?_
        by_cases h4 : m > 4611686018427387904
        · exact evPos h4 (hT _ rfl)
        · refine evNeg h4 ?_
          by_cases h5 : n = 1
          · refine evPos h5 (hT _ (decide_eq_true ?_))
            omega
          · exfalso; exact hf ⟨by omega, by omega, by omega, by omega, fun e => absurd e h5⟩
theorem word_Unrank_yes {n : Int} {r : List Int} (hr : dig n r) (h : mayR (rv n r) n = true) : Ev (fun k => word_Unrank.f k (rv n r) n) (strOfNums (fwd r), true) := by
  obtain ⟨h1, h6, h0, hm, ho⟩ := mayR_parts h
  have hl := rv_short h1 hr (by omega) (by intro e; have := ho e; omega)
  have hT : ∀ (b : Bool), b = false → Ev (fun k => word_Unrank.j0 k (rv n r) n b) (strOfNums (fwd r), true) := by
    intro b hb
    refine evStep (fun k => by rw [word_Unrank.j0]) ?_
    refine evNeg (by rw [hb]; simp) ?_
    have := word_Unrank_l0 n h1 h6 r [] hr hm (by simp; omega) (by simp)
    simpa using this
  unfold word_Unrank.f
  refine evNeg (by omega) (evNeg (by omega) (evNeg (by omega) (evNeg (by omega) ?_)))
  by_cases h5 : n = 1
  · exact evPos h5 (hT _ (decide_eq_false (by have := ho h5; omega)))
  · exact evNeg h5 (hT _ rfl)

theorem word_Valid_l0 (s : ByteArray) (n : Int) (hs : s.size ≤ 140737488351232) : ∀ d i : Nat, i + d = s.size → Ev (fun k => word_Valid.l0 k s n i) (((bs s).drop i).all (okB n)) := by
  intro d
  induction d with
  | zero =>
    intro i h
    refine evStep (fun k => by rw [word_Valid.l0]) ?_
    refine evNeg (by omega) ?_
    rw [List.drop_eq_nil_of_le (by rw [bs_length]; omega)]
    exact evNow rfl
  | succ d ih =>
    intro i h
    refine evStep (fun k => by rw [word_Valid.l0]) ?_
    refine evPos (by omega) (evPos (by omega) ?_)
    rw [drop_bt s (by omega), List.all_cons]
    by_cases h1 : bt s i < 97
    · refine evPos h1 (evNow ?_)
      simp only [okB]
      rw [decide_eq_false (by omega)]; simp
    · refine evNeg h1 ?_
      by_cases h2 : ((bt s i) - 97) % 256 ≥ n
      · refine evPos h2 (evNow ?_)
        simp only [okB]
        rw [decide_eq_false (p := (bt s i - 97) % 256 < n) (by omega)]; simp
      · refine evNeg h2 ?_
        have hok : okB n (bt s i) = true := by simp only [okB, Bool.and_eq_true, decide_eq_true_eq]; omega
        rw [hok, Bool.true_and, wrap_succ (by omega)]
        exact ih (i + 1) (by omega)
theorem word_Valid_ev (s : ByteArray) (n : Int) (hs : s.size ≤ 140737488351232) : Ev (fun k => word_Valid.f k s n) (vB (bs s) n) := by
  unfold word_Valid.f
  have hT : ∀ (b : Bool), b = true → vB (bs s) n = false → Ev (fun k => word_Valid.j0 k s n b) (vB (bs s) n) := by
    intro b hb hv
    refine evStep (fun k => by rw [word_Valid.j0]) ?_
    exact evPos hb (evNow hv.symm)
  by_cases h1 : n < 1
  · exact evPos h1 (hT _ rfl (by simp only [vB]; rw [decide_eq_false (by omega)]; simp))
  · refine evNeg h1 ?_
    by_cases h2 : n > 6
    · exact evPos h2 (hT _ rfl (by simp only [vB]; rw [decide_eq_false (p := n ≤ 6) (by omega)]; simp))
    · refine evNeg h2 ?_
      by_cases h3 : (s.size : Int) > 2048
      · exact hT _ (decide_eq_true h3) (by simp only [vB]; rw [decide_eq_false (p := (bs s).length ≤ 2048) (by rw [bs_length]; omega)]; simp)
      · refine evStep (fun k => by rw [word_Valid.j0]) ?_
        refine evNeg (by rw [decide_eq_false h3]; simp) ?_
        refine evEq (word_Valid_l0 s n hs s.size 0 (by omega)) ?_
        simp only [vB]
        rw [decide_eq_true (p := 1 ≤ n) (by omega), decide_eq_true (p := n ≤ 6) (by omega), decide_eq_true (p := (bs s).length ≤ 2048) (by rw [bs_length]; omega)]
        simp

theorem awake_ev : Ev (fun k => semigrouplaw01_awake.f k) true := by
  unfold semigrouplaw01_awake.f
  have hd : dig 2 [1, 2] := by intro d hd; simp at hd; omega
  have e5 : rv 2 [1, 2] = 5 := by simp [rv]
  have h := word_Unrank_yes (n := 2) hd (by decide)
  rw [e5] at h
  refine evBind h (evPos rfl (evPos ?_ ?_))
  · show (strOfNums (fwd [1, 2])).toList = [98, 97]
    rw [ba_toList]; decide
  · refine evBind (word_Valid_ev _ 2 (by decide)) (evPos (by decide) ?_)
    refine evBind (word_Valid_ev _ 2 (by decide)) (evNow (by decide))
theorem awake_end : Ev (fun k => (semigrouplaw01_awake.f k).bind fun t => some t) true := evSome awake_ev


theorem WordSuccessors : semigrouplaw01_WordSuccessors.Pure := by
  intro m n w hm hn hw
  have hm := wf_range hm
  refine Ev.rounds ?_
  unfold semigrouplaw01_WordSuccessors.f
  have hT : ∀ b : Bool, b = true → Ev (fun k => semigrouplaw01_WordSuccessors.j0 k m n w b) true := by
    intro b hb
    refine evStep (fun k => by rw [semigrouplaw01_WordSuccessors.j0]) ?_
    exact evPos hb awake_end
  have hT1 : ∀ (b : Bool) (x y : ByteArray), b = true → Ev (fun k => semigrouplaw01_WordSuccessors.j1 k n w x y b) true := by
    intro b x y hb
    refine evStep (fun k => by rw [semigrouplaw01_WordSuccessors.j1]) ?_
    exact evPos hb awake_end
  by_cases h0 : m < 0
  · exact evPos h0 (hT _ rfl)
  refine evNeg h0 ?_
  by_cases h1 : m ≥ 4611686018427387904
  · exact hT _ (decide_eq_true h1)
  refine evStep (fun k => by rw [semigrouplaw01_WordSuccessors.j0]) ?_
  refine evNeg (by rw [decide_eq_false h1]; simp) ?_
  have e1 : wrap64 (m + 1) = m + 1 := wrap_id (by omega) (by omega)
  rw [e1]
  by_cases hA : mayR m n = true
  · obtain ⟨p1, p6, p0, pm, po⟩ := mayR_parts hA
    obtain ⟨r, hr, er⟩ := rv_ex p1 m.toNat m (by omega) (by omega)
    obtain ⟨r', hr', er'⟩ := rv_ex p1 (m + 1).toNat (m + 1) (by omega) (by omega)
    have hu := word_Unrank_yes hr (by rw [er]; exact hA)
    rw [er] at hu
    refine evBind hu ?_
    by_cases hB : mayR (m + 1) n = true
    · have hv := word_Unrank_yes hr' (by rw [er']; exact hB)
      rw [er'] at hv
      refine evBind hv (evPos rfl ?_)
      refine evStep (fun k => by rw [semigrouplaw01_WordSuccessors.j1]) ?_
      refine evNeg (by simp) ?_
      have b1 : bs (strOfNums (fwd r)) = fwd r := bs_strOfNums (fwd_range p6 hr)
      have b2 : bs (strOfNums (fwd r')) = fwd r' := bs_strOfNums (fwd_range p6 hr')
      have huv : cmpI (fwd r) (fwd r') < 0 := (rv_cmp p1 p6 hr hr').2 (by omega)
      have cuv := word_Compare_ev (strOfNums (fwd r)) (strOfNums (fwd r'))
      have cuw := word_Compare_ev (strOfNums (fwd r)) w
      have cwv := word_Compare_ev w (strOfNums (fwd r'))
      rw [b1, b2] at cuv
      rw [b1] at cuw
      rw [b2] at cwv
      have hv := word_Valid_ev w n hw
      refine evBind hv ?_
      by_cases hval : vB (bs w) n = true
      · refine evPos hval (evBind cuw ?_)
        obtain ⟨q1, q6, ql, qo⟩ := vB_parts hval
        have hd := dgs_dig p6 (bs_range w) qo
        have hw1 := rv_cmp p1 p6 hr hd
        have hw2 := rv_cmp p1 p6 hd hr'
        rw [fwd_dgs] at hw1 hw2
        by_cases hx : cmpI (fwd r) (bs w) < 0
        · refine evPos hx (evBind cwv (evBind cuv (evPos huv (evNeg ?_ awake_end))))
          intro hy
          have a1 := hw1.1 hx
          have a2 := hw2.1 hy
          omega
        · refine evNeg hx (evBind cuv (evPos huv awake_end))
      · refine evNeg hval (evBind cuv (evPos huv awake_end))
    · refine evBind (word_Unrank_no (by simpa using hB)) (evPos rfl (hT1 _ _ _ rfl))
  · refine evBind (word_Unrank_no (by simpa using hA)) ?_
    by_cases hB : mayR (m + 1) n = true
    · obtain ⟨p1, p6, p0, pm, po⟩ := mayR_parts hB
      obtain ⟨r', hr', er'⟩ := rv_ex p1 (m + 1).toNat (m + 1) (by omega) (by omega)
      have hv := word_Unrank_yes hr' (by rw [er']; exact hB)
      rw [er'] at hv
      exact evBind hv (evNeg (by simp) (hT1 _ _ _ rfl))
    · exact evBind (word_Unrank_no (by simpa using hB)) (evNeg (by simp) (hT1 _ _ _ rfl))
end Go.Proofs.Ytfjmopdkpcplmaa.Pure
