/- The pure side of WordUnranks: for every input the printed function answers true. Conditions: none but those of the given statement. -/
import Derived.Test.YtfjmopdkpcplmaaQWordUnranksx2
import Derived.Test.YtfjmopdkpcplmaaBase
set_option linter.unusedVariables false
set_option linter.unusedSimpArgs false
namespace Go.Proofs.Ytfjmopdkpcplmaa.Pure
open Go.RowKit Go.Proofs.Ytfjmopdkpcplmaa.QWordUnranks Go.Proofs.YtfjmopdkpcplmaaW.PrintWords Go.Proofs.YtfjmopdkpcplmaaW.PrintLast Go.Proofs.YtfjmopdkpcplmaaW.PrintMore Go.Proofs.Ytfjmopdkpcplmaa.Base

def okB (n : Int) (c : Int) : Bool := decide (97 ≤ c) && decide ((c - 97) % 256 < n)
def vB (w : List Int) (n : Int) : Bool := decide (1 ≤ n) && decide (n ≤ 6) && decide (w.length ≤ 2048) && w.all (okB n)
theorem okB_dig {n c : Int} (h6 : n ≤ 6) (hc : 0 ≤ c ∧ c ≤ 255) (h : okB n c = true) : 97 ≤ c ∧ c ≤ 96 + n := by
  simp only [okB, Bool.and_eq_true, decide_eq_true_eq] at h
  omega
theorem dig_okB {n c : Int} (h6 : n ≤ 6) (h0 : 97 ≤ c) (h1 : c ≤ 96 + n) : okB n c = true := by
  simp only [okB, Bool.and_eq_true, decide_eq_true_eq]
  omega
theorem vB_parts {w : List Int} {n : Int} (h : vB w n = true) : 1 ≤ n ∧ n ≤ 6 ∧ w.length ≤ 2048 ∧ ∀ c ∈ w, okB n c = true := by
  simp only [vB, Bool.and_eq_true, decide_eq_true_eq, List.all_eq_true] at h
  exact ⟨h.1.1.1, h.1.1.2, h.1.2, h.2⟩

/-- The value of a numeral, its last digit first. -/
def rv (n : Int) : List Int → Int
  | [] => 0
  | d :: r => n * rv n r + d
def dig (n : Int) (r : List Int) : Prop := ∀ d ∈ r, 1 ≤ d ∧ d ≤ n
theorem dig_cons {n d : Int} {r : List Int} : dig n (d :: r) ↔ (1 ≤ d ∧ d ≤ n) ∧ dig n r := by simp [dig]
theorem six {n : Int} (h1 : 1 ≤ n) (h6 : n ≤ 6) : n = 1 ∨ n = 2 ∨ n = 3 ∨ n = 4 ∨ n = 5 ∨ n = 6 := by omega
theorem rv_nonneg {n : Int} (h1 : 1 ≤ n) : ∀ {r : List Int}, dig n r → 0 ≤ rv n r
  | [], _ => by simp [rv]
  | d :: r, h => by
    obtain ⟨hd, hr⟩ := dig_cons.1 h
    have := rv_nonneg h1 hr
    have := Int.mul_nonneg (show 0 ≤ n by omega) this
    simp only [rv]; omega
theorem rv_len {n : Int} (h1 : 1 ≤ n) : ∀ {r : List Int}, dig n r → (r.length : Int) ≤ rv n r
  | [], _ => by simp [rv]
  | d :: r, h => by
    obtain ⟨hd, hr⟩ := dig_cons.1 h
    have h2 := rv_len h1 hr
    have h0 := rv_nonneg h1 hr
    have h3 : rv n r ≤ n * rv n r := by
      have := Int.mul_le_mul_of_nonneg_right h1 h0
      omega
    simp only [rv, List.length_cons]; omega
theorem rv_pow {n : Int} (h2 : 2 ≤ n) : ∀ {r : List Int}, dig n r → (2 : Int) ^ r.length ≤ rv n r + 1
  | [], _ => by simp [rv]
  | d :: r, h => by
    obtain ⟨hd, hr⟩ := dig_cons.1 h
    have h3 := rv_pow h2 hr
    have h0 := rv_nonneg (by omega) hr
    have h4 : 2 * rv n r ≤ n * rv n r := Int.mul_le_mul_of_nonneg_right h2 h0
    simp only [rv, List.length_cons, Int.pow_succ]; omega
theorem rv_one : ∀ {r : List Int}, dig 1 r → rv 1 r = r.length
  | [], _ => by simp [rv]
  | d :: r, h => by
    obtain ⟨hd, hr⟩ := dig_cons.1 h
    have h3 := rv_one hr
    simp only [rv, List.length_cons]; omega
theorem rv_short {n : Int} (h1 : 1 ≤ n) {r : List Int} (hr : dig n r) (hm : rv n r ≤ 4611686018427387905) (ho : n = 1 → rv n r ≤ 2049) : r.length ≤ 2049 := by
  by_cases h : n = 1
  · subst h
    have := rv_one hr
    have := ho rfl
    omega
  · have h2 := rv_pow (show 2 ≤ n by omega) hr
    by_cases h3 : r.length ≤ 2049
    · exact h3
    · exfalso
      have h4 : (2 : Int) ^ 64 ≤ 2 ^ r.length := by
        have : (2 : Nat) ^ 64 ≤ 2 ^ r.length := Nat.pow_le_pow_right (by omega) (by omega)
        exact_mod_cast this
      omega
theorem rv_ex {n : Int} (h1 : 1 ≤ n) : ∀ (b : Nat) (m : Int), 0 ≤ m → m ≤ b → ∃ r, dig n r ∧ rv n r = m := by
  intro b
  induction b with
  | zero => intro m h0 hb; exact ⟨[], by simp [dig], by simp [rv]; omega⟩
  | succ b ih =>
    intro m h0 hb
    by_cases hm : m = 0
    · exact ⟨[], by simp [dig], by simp [rv]; omega⟩
    · have hq0 : 0 ≤ (m - 1) / n := Int.ediv_nonneg (by omega) (by omega)
      have hq1 : (m - 1) / n ≤ m - 1 := Int.ediv_le_self _ (by omega)
      obtain ⟨r, hr, e⟩ := ih ((m - 1) / n) hq0 (by omega)
      have hm0 := Int.emod_nonneg (m - 1) (show n ≠ 0 by omega)
      have hm1 := Int.emod_lt_of_pos (m - 1) (show 0 < n by omega)
      refine ⟨((m - 1) % n + 1) :: r, dig_cons.2 ⟨⟨by omega, by omega⟩, hr⟩, ?_⟩
      simp only [rv, e]
      have := Int.mul_ediv_add_emod (m - 1) n
      omega
theorem rv_inj {n : Int} (h1 : 1 ≤ n) (h6 : n ≤ 6) : ∀ {r s : List Int}, dig n r → dig n s → rv n r = rv n s → r = s
  | [], [], _, _, _ => rfl
  | [], e :: s, _, hs, h => by
    have := rv_len h1 hs
    simp only [List.length_cons] at this
    have h' : (0 : Int) = rv n (e :: s) := h
    omega
  | d :: r, [], hr, _, h => by
    have := rv_len h1 hr
    simp only [List.length_cons] at this
    have h' : rv n (d :: r) = (0 : Int) := h
    omega
  | d :: r, e :: s, hr, hs, h => by
    obtain ⟨hd, hr⟩ := dig_cons.1 hr
    obtain ⟨he, hs⟩ := dig_cons.1 hs
    simp only [rv] at h
    have hh : d = e ∧ rv n r = rv n s := by rcases six h1 h6 with rfl | rfl | rfl | rfl | rfl | rfl <;> omega
    rw [hh.1, rv_inj h1 h6 hr hs hh.2]
/-- The letters of a numeral, the first digit first. -/
def fwd (r : List Int) : List Int := (r.map (· + 96)).reverse
theorem fwd_cons (d : Int) (r : List Int) : fwd (d :: r) = fwd r ++ [d + 96] := by simp [fwd]
theorem fwd_length (r : List Int) : (fwd r).length = r.length := by simp [fwd]
theorem fwd_range {n : Int} (h6 : n ≤ 6) {r : List Int} (h : dig n r) : ∀ x ∈ fwd r, 0 ≤ x ∧ x ≤ 255 := by
  intro x hx
  simp only [fwd, List.mem_reverse, List.mem_map] at hx
  obtain ⟨d, hd, rfl⟩ := hx
  have := h d hd
  omega
theorem fwd_okB {n : Int} (h6 : n ≤ 6) {r : List Int} (h : dig n r) : ∀ x ∈ fwd r, okB n x = true := by
  intro x hx
  simp only [fwd, List.mem_reverse, List.mem_map] at hx
  obtain ⟨d, hd, rfl⟩ := hx
  have := h d hd
  exact dig_okB h6 (by omega) (by omega)
theorem fwd_inj : ∀ {r s : List Int}, fwd r = fwd s → r = s := by
  intro r s h
  have h1 := List.reverse_inj.1 h
  exact List.map_inj_right (f := fun x : Int => x + 96) (fun a b h => by have h' : a + 96 = b + 96 := h; omega) |>.1 h1
/-- The digits of a word. -/
def dgs (w : List Int) : List Int := (w.map (· - 96)).reverse
theorem fwd_dgs (w : List Int) : fwd (dgs w) = w := by
  simp only [fwd, dgs, List.map_reverse, List.reverse_reverse, List.map_map]
  conv => rhs; rw [← List.map_id w]
  apply List.map_congr_left
  intro x _
  simp only [Function.comp, id]; omega
theorem dgs_dig {n : Int} (h6 : n ≤ 6) {w : List Int} (hw : ∀ c ∈ w, 0 ≤ c ∧ c ≤ 255) (h : ∀ c ∈ w, okB n c = true) : dig n (dgs w) := by
  intro d hd
  simp only [dgs, List.mem_reverse, List.mem_map] at hd
  obtain ⟨c, hc, rfl⟩ := hd
  have := okB_dig h6 (hw c hc) (h c hc)
  omega
theorem rv_order {n : Int} (h1 : 1 ≤ n) (h6 : n ≤ 6) : ∀ {r s : List Int}, dig n r → dig n s → r.length = s.length → (lessL (fwd r) (fwd s) = true ↔ rv n r < rv n s)
  | [], [], _, _, _ => by simp [fwd, lessL, rv]
  | [], _ :: _, _, _, h => by simp at h
  | _ :: _, [], _, _, h => by simp at h
  | d :: r, e :: s, hr, hs, h => by
    obtain ⟨hd, hr⟩ := dig_cons.1 hr
    obtain ⟨he, hs⟩ := dig_cons.1 hs
    have hl : r.length = s.length := by simpa using h
    rw [fwd_cons, fwd_cons, lessL_snoc _ _ _ _ (by rw [fwd_length, fwd_length]; exact hl), rv_order h1 h6 hr hs hl]
    have heq : fwd r = fwd s ↔ rv n r = rv n s := ⟨fun h => by rw [fwd_inj h], fun h => by rw [rv_inj h1 h6 hr hs h]⟩
    rw [heq]
    simp only [rv]
    rcases six h1 h6 with rfl | rfl | rfl | rfl | rfl | rfl <;> omega
theorem rv_longer {n : Int} (h1 : 1 ≤ n) (h6 : n ≤ 6) : ∀ {r s : List Int}, dig n r → dig n s → r.length < s.length → rv n r < rv n s
  | [], e :: s, _, hs, _ => by
    have := rv_len h1 hs
    simp only [List.length_cons] at this
    show (0 : Int) < rv n (e :: s)
    omega
  | [], [], _, _, h => by simp at h
  | _ :: _, [], _, _, h => by simp at h
  | d :: r, e :: s, hr, hs, h => by
    obtain ⟨hd, hr⟩ := dig_cons.1 hr
    obtain ⟨he, hs⟩ := dig_cons.1 hs
    have := rv_longer h1 h6 hr hs (by simpa using h)
    simp only [rv]
    rcases six h1 h6 with rfl | rfl | rfl | rfl | rfl | rfl <;> omega
theorem rv_cmp {n : Int} (h1 : 1 ≤ n) (h6 : n ≤ 6) {r s : List Int} (hr : dig n r) (hs : dig n s) : cmpI (fwd r) (fwd s) < 0 ↔ rv n r < rv n s := by
  rw [cmpI_neg, fwd_length, fwd_length]
  constructor
  · rintro (h | ⟨h, g⟩)
    · exact rv_longer h1 h6 hr hs h
    · exact (rv_order h1 h6 hr hs h).1 g
  · intro h
    rcases Nat.lt_trichotomy r.length s.length with l | l | l
    · exact .inl l
    · exact .inr ⟨l, (rv_order h1 h6 hr hs l).2 h⟩
    · have := rv_longer h1 h6 hs hr l
      omega

theorem rep_set (t : List Int) (x : Int) : ∀ m : Nat, (List.replicate (m + 1) 0 ++ t).set m x = List.replicate m 0 ++ x :: t
  | 0 => rfl
  | m + 1 => by rw [List.replicate_succ, List.cons_append, List.set_cons_succ, rep_set t x m]; rfl
theorem word_Reverse_l0 (s : ByteArray) (hs : s.size ≤ 140737488355328) : ∀ d i : Nat, i + d = s.size → Ev (fun k => word_Reverse.l0 k s (List.replicate d 0 ++ ((bs s).take i).reverse) i) (strOfNums (bs s).reverse) := by
  intro d
  induction d with
  | zero =>
    intro i h
    refine evStep (fun k => by rw [word_Reverse.l0]) ?_
    refine evNeg (by omega) (evNow ?_)
    rw [List.take_of_length_le (by rw [bs_length]; omega)]; rfl
  | succ d ih =>
    intro i h
    refine evStep (fun k => by rw [word_Reverse.l0]) ?_
    have e1 : wrap64 ((wrap64 ((s.size : Int) - 1)) - i) = (d : Int) := by unfold wrap64; omega
    rw [e1]
    refine evPos (by omega) (evPos (by omega) (evPos (by omega) (evPos ?_ ?_)))
    · simp only [List.length_append, List.length_replicate]; omega
    · rw [wrap_succ (by omega), Int.toNat_natCast, rep_set]
      have := ih (i + 1) (by omega)
      rw [take_bt s (by omega), List.reverse_append] at this
      exact this
theorem word_Reverse_ev (s : ByteArray) (hs : s.size ≤ 140737488355328) : Ev (fun k => word_Reverse.f k s) (strOfNums (bs s).reverse) := by
  unfold word_Reverse.f
  refine evPos (by omega) (evPos (by omega) ?_)
  have := word_Reverse_l0 s hs s.size 0 (by omega)
  simpa using this

theorem word_Unrank_l0 (n : Int) (h1 : 1 ≤ n) (h6 : n ≤ 6) : ∀ (r acc : List Int), dig n r → rv n r ≤ 4611686018427387904 → acc.length + r.length ≤ 4096 → (∀ x ∈ acc, 0 ≤ x ∧ x ≤ 255) →
    Ev (fun k => word_Unrank.l0 k (rv n r) n acc) (strOfNums (fwd r ++ acc.reverse), true) := by
  intro r
  induction r with
  | nil =>
    intro acc hr hm hl ha
    refine evStep (fun k => by rw [word_Unrank.l0]) ?_
    refine evNeg (by simp [rv]) ?_
    refine evBind (word_Reverse_ev _ (by rw [strOfNums_size]; simp at hl; omega)) (evNow ?_)
    rw [bs_strOfNums ha]; rfl
  | cons d r ih =>
    intro acc hr hm hl ha
    obtain ⟨hd, hr'⟩ := dig_cons.1 hr
    have h0 := rv_nonneg h1 hr'
    have hm' : rv n (d :: r) = n * rv n r + d := rfl
    have hpos : rv n (d :: r) > 0 := by
      have := Int.mul_nonneg (show 0 ≤ n by omega) h0
      omega
    have hle : rv n r ≤ rv n (d :: r) := by
      have := Int.mul_le_mul_of_nonneg_right h1 h0
      omega
    refine evStep (fun k => by rw [word_Unrank.l0]) ?_
    refine evPos hpos (evNeg (by omega) (evPos (by omega) ?_))
    have e1 : wrap64 (rv n (d :: r) - 1) = rv n (d :: r) - 1 := wrap_id (by omega) (by omega)
    have e2 : Int.tdiv (rv n (d :: r) - 1) n = rv n r := by
      rw [Int.tdiv_eq_ediv_of_nonneg (by omega), hm']
      rcases six h1 h6 with rfl | rfl | rfl | rfl | rfl | rfl <;> omega
    have e3 : Int.tmod (rv n (d :: r) - 1) n = d - 1 := by
      rw [Int.tmod_eq_emod_of_nonneg (by omega), hm']
      rcases six h1 h6 with rfl | rfl | rfl | rfl | rfl | rfl <;> omega
    have e4 : wrap64 (rv n r) = rv n r := wrap_id (by omega) (by omega)
    have e5 : (97 + (d - 1)) % 256 = d + 96 := by omega
    rw [e1, e2, e3, e4, e5]
    have := ih (acc ++ [d + 96]) hr' (by omega) (by simp only [List.length_append, List.length_cons, List.length_nil] at hl ⊢; omega) (by
      intro x hx
      rcases List.mem_append.1 hx with h | h
      · exact ha x h
      · simp only [List.mem_singleton] at h; omega)
    rw [List.reverse_append] at this
    rw [fwd_cons, List.append_assoc]
    exact this
def mayR (m n : Int) : Bool := decide (1 ≤ n) && decide (n ≤ 6) && decide (0 ≤ m) && decide (m ≤ 4611686018427387904) && !(decide (n = 1) && decide (m > 2048))
theorem mayR_parts {m n : Int} (h : mayR m n = true) : 1 ≤ n ∧ n ≤ 6 ∧ 0 ≤ m ∧ m ≤ 4611686018427387904 ∧ (n = 1 → m ≤ 2048) := by
  simp only [mayR, Bool.and_eq_true, decide_eq_true_eq, Bool.not_eq_true', Bool.and_eq_false_iff, decide_eq_false_iff_not] at h
  refine ⟨h.1.1.1.1, h.1.1.1.2, h.1.1.2, h.1.2, fun e => ?_⟩
  have := h.2
  omega
theorem mayR_intro {m n : Int} (h : 1 ≤ n ∧ n ≤ 6 ∧ 0 ≤ m ∧ m ≤ 4611686018427387904 ∧ (n = 1 → m ≤ 2048)) : mayR m n = true := by
  simp only [mayR, Bool.and_eq_true, decide_eq_true_eq, Bool.not_eq_true', Bool.and_eq_false_iff, decide_eq_false_iff_not]
  refine ⟨⟨⟨⟨h.1, h.2.1⟩, h.2.2.1⟩, h.2.2.2.1⟩, ?_⟩
  have := h.2.2.2.2
  omega
theorem mayR_false {m n : Int} (h : mayR m n = false) : ¬ (1 ≤ n ∧ n ≤ 6 ∧ 0 ≤ m ∧ m ≤ 4611686018427387904 ∧ (n = 1 → m ≤ 2048)) := by
  intro h'
  rw [mayR_intro h'] at h
  simp at h
theorem word_Unrank_no {m n : Int} (h : mayR m n = false) : Ev (fun k => word_Unrank.f k m n) ((⟨#[]⟩ : ByteArray), false) := by
  have hf := mayR_false h
  unfold word_Unrank.f
  have hT : ∀ (b : Bool), b = true → Ev (fun k => word_Unrank.j0 k m n b) ((⟨#[]⟩ : ByteArray), false) := by
    intro b hb
    refine evStep (fun k => by rw [word_Unrank.j0]) ?_
    exact evPos hb (Ev.now _)
  by_cases h1 : n < 1
  · exact evPos h1 (hT _ rfl)
  · refine evNeg h1 ?_
    by_cases h2 : n > 6
    · exact evPos h2 (hT _ rfl)
    · refine evNeg h2 ?_
      by_cases h3 : m < 0
      · exact evPos h3 (hT _ rfl)
      · refine evNeg h3 ?_
        by_cases h4 : m > 4611686018427387904
        · exact evPos h4 (hT _ rfl)
        · refine evNeg h4 ?_
          by_cases h5 : n = 1
          · refine evPos h5 (hT _ (decide_eq_true ?_))
            omega
          · exfalso; exact hf ⟨by omega, by omega, by omega, by omega, fun e => absurd e h5⟩
theorem word_Unrank_yes {n : Int} {r : List Int} (hr : dig n r) (h : mayR (rv n r) n = true) : Ev (fun k => word_Unrank.f k (rv n r) n) (strOfNums (fwd r), true) := by
  obtain ⟨h1, h6, h0, hm, ho⟩ := mayR_parts h
  have hl := rv_short h1 hr (by omega) (by intro e; have := ho e; omega)
  have hT : ∀ (b : Bool), b = false → Ev (fun k => word_Unrank.j0 k (rv n r) n b) (strOfNums (fwd r), true) := by
    intro b hb
    refine evStep (fun k => by rw [word_Unrank.j0]) ?_
    refine evNeg (by rw [hb]; simp) ?_
    have := word_Unrank_l0 n h1 h6 r [] hr hm (by simp; omega) (by simp)
    simpa using this
  unfold word_Unrank.f
  refine evNeg (by omega) (evNeg (by omega) (evNeg (by omega) (evNeg (by omega) ?_)))
  by_cases h5 : n = 1
  · exact evPos h5 (hT _ (decide_eq_false (by have := ho h5; omega)))
  · exact evNeg h5 (hT _ rfl)

theorem semigroupref01_Unrank_l0 (n : Int) (h1 : 1 ≤ n) (h6 : n ≤ 6) : ∀ (r : List Int) (acc : ByteArray), dig n r → rv n r ≤ 4611686018427387904 → acc.size + r.length ≤ 4096 →
    Ev (fun k => semigroupref01_Unrank.l0 k (rv n r) n acc) (strOfNums (fwd r) ++ acc, true) := by
  intro r
  induction r with
  | nil =>
    intro acc hr hm hl
    refine evStep (fun k => by rw [semigroupref01_Unrank.l0]) ?_
    refine evNeg (by simp [rv]) (evNow ?_)
    rw [Prod.mk.injEq]
    exact ⟨bs_inj (by rw [bs_append, bs_strOfNums (by simp [fwd])]; rfl), rfl⟩
  | cons d r ih =>
    intro acc hr hm hl
    obtain ⟨hd, hr'⟩ := dig_cons.1 hr
    have h0 := rv_nonneg h1 hr'
    have hm' : rv n (d :: r) = n * rv n r + d := rfl
    have hpos : rv n (d :: r) > 0 := by
      have := Int.mul_nonneg (show 0 ≤ n by omega) h0
      omega
    have hle : rv n r ≤ rv n (d :: r) := by
      have := Int.mul_le_mul_of_nonneg_right h1 h0
      omega
    have e1 : wrap64 (rv n (d :: r) - 1) = rv n (d :: r) - 1 := wrap_id (by omega) (by omega)
    have e2 : Int.tdiv (rv n (d :: r) - 1) n = rv n r := by
      rw [Int.tdiv_eq_ediv_of_nonneg (by omega), hm']
      rcases six h1 h6 with rfl | rfl | rfl | rfl | rfl | rfl <;> omega
    have e3 : Int.tmod (rv n (d :: r) - 1) n = d - 1 := by
      rw [Int.tmod_eq_emod_of_nonneg (by omega), hm']
      rcases six h1 h6 with rfl | rfl | rfl | rfl | rfl | rfl <;> omega
    have e4 : wrap64 (rv n r) = rv n r := wrap_id (by omega) (by omega)
    have e5 : (wrap64 (97 + (d - 1))) % 256 = d + 96 := by unfold wrap64; omega
    refine evStep (fun k => by rw [semigroupref01_Unrank.l0]) ?_
    refine evPos hpos (evNeg (by omega) ?_)
    rw [e1, e2, e3, e4, e5]
    refine evBindC rfl (evPos ?_ ?_)
    · rw [strOfNums_size]; simp at hl ⊢; omega
    · have := ih (strOfNums [d + 96] ++ acc) hr' (by omega) (by rw [ByteArray.size_append, strOfNums_size]; simp at hl ⊢; omega)
      rw [fwd_cons, strOfNums_append, ByteArray.append_assoc]
      exact this
theorem semigroupref01_Unrank_yes {n : Int} {r : List Int} (hr : dig n r) (h : mayR (rv n r) n = true) : Ev (fun k => semigroupref01_Unrank.f k (rv n r) n) (strOfNums (fwd r), true) := by
  obtain ⟨h1, h6, h0, hm, ho⟩ := mayR_parts h
  have hl := rv_short h1 hr (by omega) (by intro e; have := ho e; omega)
  have hT : ∀ (b : Bool), b = false → Ev (fun k => semigroupref01_Unrank.j0 k (rv n r) n b) (strOfNums (fwd r), true) := by
    intro b hb
    refine evStep (fun k => by rw [semigroupref01_Unrank.j0]) ?_
    refine evNeg (by rw [hb]; simp) ?_
    have := semigroupref01_Unrank_l0 n h1 h6 r (⟨#[]⟩ : ByteArray) hr hm (by show 0 + r.length ≤ 4096; omega)
    refine evEq this ?_
    rw [Prod.mk.injEq]
    exact ⟨bs_inj (by rw [bs_append]; show _ ++ [] = _; simp), rfl⟩
  unfold semigroupref01_Unrank.f
  refine evBindC (a := true) (by unfold semigroupref01_MayLetters.f; rw [if_pos (by omega), decide_eq_true (by omega)]) (evPos rfl ?_)
  refine evNeg (by omega) (evNeg (by omega) ?_)
  by_cases h5 : n = 1
  · exact evPos h5 (hT _ (decide_eq_false (by have := ho h5; omega)))
  · exact evNeg h5 (hT _ rfl)
theorem semigroupref01_Unrank_no {m n : Int} (h : mayR m n = false) : Ev (fun k => semigroupref01_Unrank.f k m n) ((⟨#[]⟩ : ByteArray), false) := by
  have hf := mayR_false h
  unfold semigroupref01_Unrank.f
  have hT : ∀ (b : Bool), b = true → Ev (fun k => semigroupref01_Unrank.j0 k m n b) ((⟨#[]⟩ : ByteArray), false) := by
    intro b hb
    refine evStep (fun k => by rw [semigroupref01_Unrank.j0]) ?_
    exact evPos hb (Ev.now _)
  by_cases h0 : 1 ≤ n ∧ n ≤ 6
  · refine evBindC (a := true) (by unfold semigroupref01_MayLetters.f; rw [if_pos (by omega), decide_eq_true (by omega)]) (evPos rfl ?_)
    by_cases h3 : m < 0
    · exact evPos h3 (hT _ rfl)
    · refine evNeg h3 ?_
      by_cases h4 : m > 4611686018427387904
      · exact evPos h4 (hT _ rfl)
      · refine evNeg h4 ?_
        by_cases h5 : n = 1
        · refine evPos h5 (hT _ (decide_eq_true ?_))
          omega
        · exfalso; exact hf ⟨by omega, by omega, by omega, by omega, fun e => absurd e h5⟩
  · have hm : semigroupref01_MayLetters.f n = some false := by
      unfold semigroupref01_MayLetters.f
      by_cases h : n ≥ 1
      · rw [if_pos h, decide_eq_false (by omega)]
      · rw [if_neg h]
    exact evBindC hm (evNeg (by simp) (hT _ rfl))

def fv (n : Int) : Int → List Int → Int
  | acc, [] => acc
  | acc, c :: w => fv n (acc * n + (c - 96)) w
theorem fv_rv (n : Int) : ∀ (w R : List Int), fv n (rv n R) w = rv n ((w.map (· - 96)).reverse ++ R)
  | [], R => rfl
  | c :: w, R => by
    have : rv n R * n + (c - 96) = rv n ((c - 96) :: R) := by simp only [rv]; rw [Int.mul_comm]
    simp only [fv, this, fv_rv n w ((c - 96) :: R), List.map_cons, List.reverse_cons, List.append_assoc, List.singleton_append]
theorem fv_dgs (n : Int) (w : List Int) : fv n 0 w = rv n (dgs w) := by
  have := fv_rv n w []
  simpa [dgs, rv] using this
theorem fv_mono {n : Int} (h1 : 1 ≤ n) : ∀ (w : List Int) (acc : Int), 0 ≤ acc → (∀ c ∈ w, 97 ≤ c) → acc ≤ fv n acc w
  | [], acc, _, _ => Int.le_refl _
  | c :: w, acc, h0, hw => by
    have hc := hw c (by simp)
    have h2 : acc * 1 ≤ acc * n := Int.mul_le_mul_of_nonneg_left h1 h0
    have := fv_mono h1 w (acc * n + (c - 96)) (by omega) (fun x hx => hw x (by simp [hx]))
    simp only [fv]; omega
def rkI (w : List Int) (n : Int) : Int × Bool := if vB w n = true then (if rv n (dgs w) ≤ 4611686018427387904 then (rv n (dgs w), true) else (0, false)) else (0, false)

theorem word_Valid_l0 (s : ByteArray) (n : Int) (hs : s.size ≤ 140737488351232) : ∀ d i : Nat, i + d = s.size → Ev (fun k => word_Valid.l0 k s n i) (((bs s).drop i).all (okB n)) := by
  intro d
  induction d with
  | zero =>
    intro i h
    refine evStep (fun k => by rw [word_Valid.l0]) ?_
    refine evNeg (by omega) ?_
    rw [List.drop_eq_nil_of_le (by rw [bs_length]; omega)]
    exact evNow rfl
  | succ d ih =>
    intro i h
    refine evStep (fun k => by rw [word_Valid.l0]) ?_
    refine evPos (by omega) (evPos (by omega) ?_)
    rw [drop_bt s (by omega), List.all_cons]
    by_cases h1 : bt s i < 97
    · refine evPos h1 (evNow ?_)
      simp only [okB]
      rw [decide_eq_false (by omega)]; simp
    · refine evNeg h1 ?_
      by_cases h2 : ((bt s i) - 97) % 256 ≥ n
      · refine evPos h2 (evNow ?_)
        simp only [okB]
        rw [decide_eq_false (p := (bt s i - 97) % 256 < n) (by omega)]; simp
      · refine evNeg h2 ?_
        have hok : okB n (bt s i) = true := by simp only [okB, Bool.and_eq_true, decide_eq_true_eq]; omega
        rw [hok, Bool.true_and, wrap_succ (by omega)]
        exact ih (i + 1) (by omega)
theorem word_Valid_ev (s : ByteArray) (n : Int) (hs : s.size ≤ 140737488351232) : Ev (fun k => word_Valid.f k s n) (vB (bs s) n) := by
  unfold word_Valid.f
  have hT : ∀ (b : Bool), b = true → vB (bs s) n = false → Ev (fun k => word_Valid.j0 k s n b) (vB (bs s) n) := by
    intro b hb hv
    refine evStep (fun k => by rw [word_Valid.j0]) ?_
    exact evPos hb (evNow hv.symm)
  by_cases h1 : n < 1
  · exact evPos h1 (hT _ rfl (by simp only [vB]; rw [decide_eq_false (by omega)]; simp))
  · refine evNeg h1 ?_
    by_cases h2 : n > 6
    · exact evPos h2 (hT _ rfl (by simp only [vB]; rw [decide_eq_false (p := n ≤ 6) (by omega)]; simp))
    · refine evNeg h2 ?_
      by_cases h3 : (s.size : Int) > 2048
      · exact hT _ (decide_eq_true h3) (by simp only [vB]; rw [decide_eq_false (p := (bs s).length ≤ 2048) (by rw [bs_length]; omega)]; simp)
      · refine evStep (fun k => by rw [word_Valid.j0]) ?_
        refine evNeg (by rw [decide_eq_false h3]; simp) ?_
        refine evEq (word_Valid_l0 s n hs s.size 0 (by omega)) ?_
        simp only [vB]
        rw [decide_eq_true (p := 1 ≤ n) (by omega), decide_eq_true (p := n ≤ 6) (by omega), decide_eq_true (p := (bs s).length ≤ 2048) (by rw [bs_length]; omega)]
        simp

theorem word_Rank_l0 (s : ByteArray) (n : Int) (hs : s.size ≤ 140737488351232) (h1 : 1 ≤ n) (h6 : n ≤ 6) (hok : ∀ c ∈ bs s, okB n c = true) : ∀ (d i : Nat) (acc : Int), i + d = s.size → 0 ≤ acc → acc ≤ 4611686018427387904 →
    Ev (fun k => word_Rank.l0 k s n acc i) (if fv n acc ((bs s).drop i) ≤ 4611686018427387904 then (fv n acc ((bs s).drop i), true) else (0, false)) := by
  intro d
  induction d with
  | zero =>
    intro i acc h h0 hm
    refine evStep (fun k => by rw [word_Rank.l0]) ?_
    refine evNeg (by omega) (evNow ?_)
    have e0 : fv n acc ((bs s).drop i) = acc := by rw [List.drop_eq_nil_of_le (by rw [bs_length]; omega)]; rfl
    rw [e0, if_pos hm]
  | succ d ih =>
    intro i acc h h0 hm
    have hmem : bt s i ∈ bs s := by
      have := drop_bt s (i := i) (by omega)
      exact List.mem_of_mem_drop (i := i) (by rw [this]; simp)
    have hc := okB_dig h6 (bs_range s _ hmem) (hok _ hmem)
    have hr := bs_range s _ hmem
    have e1 : ((bt s i) - 97) % 256 + 1 = bt s i - 96 := by omega
    have hq0 : 0 ≤ (4611686018427387904 - (bt s i - 96)) / n := Int.ediv_nonneg (by omega) (by omega)
    have hq1 : (4611686018427387904 - (bt s i - 96)) / n ≤ 4611686018427387904 - (bt s i - 96) := Int.ediv_le_self _ (by omega)
    have e2 : wrap64 ((4611686018427387904 - (bt s i - 96)) / n) = (4611686018427387904 - (bt s i - 96)) / n := wrap_id (by omega) (by omega)
    refine evStep (fun k => by rw [word_Rank.l0]) ?_
    refine evPos (by omega) (evPos (by omega) (evNeg (by omega) ?_))
    rw [e1, Int.tdiv_eq_ediv_of_nonneg (show 0 ≤ 4611686018427387904 - (bt s i - 96) by omega), e2]
    have e0 : fv n acc ((bs s).drop i) = fv n (acc * n + (bt s i - 96)) ((bs s).drop (i + 1)) := by rw [drop_bt s (by omega)]; rfl
    rw [e0]
    by_cases hx : acc > (4611686018427387904 - (bt s i - 96)) / n
    · refine evPos hx (evNow ?_)
      have hbig : acc * n + (bt s i - 96) > 4611686018427387904 := by rcases six h1 h6 with rfl | rfl | rfl | rfl | rfl | rfl <;> omega
      have := fv_mono h1 ((bs s).drop (i + 1)) (acc * n + (bt s i - 96)) (by omega) (fun c hc' => (okB_dig h6 (bs_range s _ (List.mem_of_mem_drop hc')) (hok _ (List.mem_of_mem_drop hc'))).1)
      rw [if_neg (by omega)]
    · refine evNeg hx ?_
      have hsm : 0 ≤ acc * n + (bt s i - 96) ∧ acc * n + (bt s i - 96) ≤ 4611686018427387904 ∧ 0 ≤ acc * n ∧ acc * n ≤ 4611686018427387904 := by rcases six h1 h6 with rfl | rfl | rfl | rfl | rfl | rfl <;> omega
      have e3 : wrap64 (acc * n) = acc * n := wrap_id (by omega) (by omega)
      have e4 : wrap64 (acc * n + (bt s i - 96)) = acc * n + (bt s i - 96) := wrap_id (by omega) (by omega)
      rw [e3, e4, wrap_succ (by omega)]
      exact ih (i + 1) _ (by omega) hsm.1 hsm.2.1
theorem word_Rank_ev (s : ByteArray) (n : Int) (hs : s.size ≤ 140737488351232) : Ev (fun k => word_Rank.f k s n) (rkI (bs s) n) := by
  unfold word_Rank.f
  refine evBind (word_Valid_ev s n hs) ?_
  unfold rkI
  by_cases h : vB (bs s) n = true
  · obtain ⟨h1, h6, hl, hok⟩ := vB_parts h
    rw [if_pos h]
    refine evPos h ?_
    have := word_Rank_l0 s n hs h1 h6 hok s.size 0 0 (by omega) (by omega) (by omega)
    rw [List.drop_zero, fv_dgs] at this
    exact this
  · rw [if_neg h]
    exact evNeg h (Ev.now _)

theorem awake_ev : Ev (fun k => semigrouplaw01_awake.f k) true := by
  unfold semigrouplaw01_awake.f
  have hd : dig 2 [1, 2] := by intro d hd; simp at hd; omega
  have e5 : rv 2 [1, 2] = 5 := by simp [rv]
  have h := word_Unrank_yes (n := 2) hd (by decide)
  rw [e5] at h
  refine evBind h (evPos rfl (evPos ?_ ?_))
  · show (strOfNums (fwd [1, 2])).toList = [98, 97]
    rw [ba_toList]; decide
  · refine evBind (word_Valid_ev _ 2 (by decide)) (evPos (by decide) ?_)
    refine evBind (word_Valid_ev _ 2 (by decide)) (evNow (by decide))
theorem awake_end : Ev (fun k => (semigrouplaw01_awake.f k).bind fun t => some t) true := evSome awake_ev


theorem WordUnranks : semigrouplaw01_WordUnranks.Pure := by
  intro m n hm hn
  have hm := wf_range hm
  refine Ev.rounds ?_
  unfold semigrouplaw01_WordUnranks.f
  by_cases hA : mayR m n = true
  · obtain ⟨p1, p6, p0, pm, po⟩ := mayR_parts hA
    obtain ⟨r, hr, er⟩ := rv_ex p1 m.toNat m (by omega) (by omega)
    have hu := word_Unrank_yes hr (by rw [er]; exact hA)
    have hv := semigroupref01_Unrank_yes hr (by rw [er]; exact hA)
    rw [er] at hu hv
    refine evBind hu (evBind hv (evPos rfl ?_))
    refine evStep (fun k => by rw [semigrouplaw01_WordUnranks.j0]) ?_
    refine evNeg (by simp) (evPos rfl ?_)
    have hlen : r.length ≤ 2048 := by
      by_cases e : n = 1
      · subst e
        have h1 := rv_one hr
        have h2 := po rfl
        omega
      · have h2 := rv_pow (show 2 ≤ n by omega) hr
        by_cases h3 : r.length ≤ 2048
        · exact h3
        · exfalso
          have h4 : (2 : Int) ^ 64 ≤ 2 ^ r.length := by
            have : (2 : Nat) ^ 64 ≤ 2 ^ r.length := Nat.pow_le_pow_right (by omega) (by omega)
            exact_mod_cast this
          omega
    have b1 : bs (strOfNums (fwd r)) = fwd r := bs_strOfNums (fwd_range p6 hr)
    have hk := word_Rank_ev (strOfNums (fwd r)) n (by rw [strOfNums_size, fwd_length]; omega)
    have hd : dgs (fwd r) = r := fwd_inj (by rw [fwd_dgs])
    have hvB : vB (fwd r) n = true := by
      simp only [vB, Bool.and_eq_true, decide_eq_true_eq, List.all_eq_true]
      exact ⟨⟨⟨p1, p6⟩, by rw [fwd_length]; exact hlen⟩, fwd_okB p6 hr⟩
    rw [b1] at hk
    have hrk : rkI (fwd r) n = (m, true) := by unfold rkI; rw [if_pos hvB, hd, er, if_pos pm]
    rw [hrk] at hk
    exact evBind hk (evPos rfl (evPos rfl awake_end))
  · have hA' : mayR m n = false := by simpa using hA
    refine evBind (word_Unrank_no hA') (evBind (semigroupref01_Unrank_no hA') (evPos rfl ?_))
    refine evStep (fun k => by rw [semigrouplaw01_WordUnranks.j0]) ?_
    exact evNeg (by simp) (evNeg (by simp) awake_end)
end Go.Proofs.Ytfjmopdkpcplmaa.Pure
