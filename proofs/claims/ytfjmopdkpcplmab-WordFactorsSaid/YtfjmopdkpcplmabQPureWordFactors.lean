/- The pure side of WordFactors: for every input the printed function answers true. Conditions: none but those of the given statement. -/
import Derived.Test.YtfjmopdkpcplmabQWordFactorsx4
import Derived.Test.YtfjmopdkpcplmabBase
set_option linter.unusedVariables false
set_option linter.unusedSimpArgs false
namespace Go.Proofs.Ytfjmopdkpcplmab.Pure
open Go.RowKit Go.Proofs.Ytfjmopdkpcplmab.QWordFactors Go.Proofs.YtfjmopdkpcplmabW.PrintWords Go.Proofs.YtfjmopdkpcplmabW.PrintLast Go.Proofs.YtfjmopdkpcplmabW.PrintMore Go.Proofs.Ytfjmopdkpcplmab.Base

/-- The order of the lists of words. -/
def ltB (a b : ByteArray) : Prop := cmpI (bs a) (bs b) < 0
theorem ltB_irrefl (a : ByteArray) : ¬ ltB a a := by
  unfold ltB
  rw [(cmpI_zero _ _).2 rfl]
  omega
theorem ltB_asymm {a b : ByteArray} (h : ltB a b) : ¬ ltB b a := by
  unfold ltB at *
  rw [cmpI_flip]
  omega
theorem ltB_trans {a b c : ByteArray} (h : ltB a b) (h' : ltB b c) : ltB a c := cmpI_trans h h'
theorem ltB_total {a b : ByteArray} (h : ¬ ltB a b) (hn : a ≠ b) : ltB b a := by
  unfold ltB at *
  have h0 : cmpI (bs a) (bs b) ≠ 0 := fun e => hn (bs_inj ((cmpI_zero _ _).1 e))
  rw [cmpI_flip]
  omega
theorem strict_unique : ∀ {xs ys : List ByteArray}, xs.Pairwise ltB → ys.Pairwise ltB → (∀ a, a ∈ xs ↔ a ∈ ys) → xs = ys
  | [], [], _, _, _ => rfl
  | [], y :: ys, _, _, h => absurd ((h y).2 (List.mem_cons_self)) (by simp)
  | x :: xs, [], _, _, h => absurd ((h x).1 (List.mem_cons_self)) (by simp)
  | x :: xs, y :: ys, hx, hy, h => by
    rw [List.pairwise_cons] at hx hy
    have exy : x = y := by
      rcases List.mem_cons.1 ((h x).1 List.mem_cons_self) with e | e
      · exact e
      · rcases List.mem_cons.1 ((h y).2 List.mem_cons_self) with e' | e'
        · exact e'.symm
        · exact absurd (hx.1 _ e') (ltB_asymm (hy.1 _ e))
    subst exy
    refine congrArg _ (strict_unique hx.2 hy.2 fun a => ⟨fun ha => ?_, fun ha => ?_⟩)
    · rcases List.mem_cons.1 ((h a).1 (List.mem_cons_of_mem _ ha)) with e | e
      · subst e; exact absurd (hx.1 _ ha) (ltB_irrefl _)
      · exact e
    · rcases List.mem_cons.1 ((h a).2 (List.mem_cons_of_mem _ ha)) with e | e
      · subst e; exact absurd (hy.1 _ ha) (ltB_irrefl _)
      · exact e
theorem rdOf_at {l : List ByteArray} {i : Nat} (h : i < l.length) : rdOf ByteArray.empty l (i : Int) = l[i] := by
  simp [rdOf, h]

theorem semigroupref01_Compare_ev (u v : ByteArray) : Ev (fun k => semigroupref01_Compare.f k u v) (cmpI (bs u) (bs v)) := by
  unfold semigroupref01_Compare.f
  have hl := bs_length u
  have hl' := bs_length v
  have hT : ∀ (b : Bool), b = true → cmpI (bs u) (bs v) < 0 → Ev (fun k => semigroupref01_Compare.j0 k u v b) (cmpI (bs u) (bs v)) := by
    intro b hb hv
    refine evStep (fun k => by rw [semigroupref01_Compare.j0]) ?_
    refine evPos hb (evNow ?_)
    unfold cmpI at hv ⊢
    by_cases h0 : (bs u).length = (bs v).length
    · rw [if_pos h0] at hv ⊢
      by_cases h1 : lessL (bs u) (bs v) = true
      · rw [if_pos h1]
      · rw [if_neg h1] at hv
        by_cases h2 : lessL (bs v) (bs u) = true
        · rw [if_pos h2] at hv; simp at hv
        · rw [if_neg h2] at hv; simp at hv
    · rw [if_neg h0] at hv ⊢
      by_cases h1 : (bs u).length < (bs v).length
      · rw [if_pos h1]
      · rw [if_neg h1] at hv; simp at hv
  have hF : ∀ (b : Bool), b = false → ¬ cmpI (bs u) (bs v) < 0 → Ev (fun k => semigroupref01_Compare.j0 k u v b) (cmpI (bs u) (bs v)) := by
    intro b hb hv
    refine evStep (fun k => by rw [semigroupref01_Compare.j0]) ?_
    refine evNeg (by rw [hb]; simp) ?_
    by_cases he : u.toList = v.toList
    · refine evPos he (evNow ?_)
      rw [(cmpI_zero _ _).2 ((toList_iff u v).1 he)]
    · refine evNeg he (evNow ?_)
      have hne : cmpI (bs u) (bs v) ≠ 0 := fun e => he ((toList_iff u v).2 ((cmpI_zero _ _).1 e))
      unfold cmpI at hv hne ⊢
      by_cases h0 : (bs u).length = (bs v).length
      · rw [if_pos h0] at hv hne ⊢
        by_cases h1 : lessL (bs u) (bs v) = true
        · rw [if_pos h1] at hv; simp at hv
        · rw [if_neg h1] at hne ⊢
          by_cases h2 : lessL (bs v) (bs u) = true
          · rw [if_pos h2]
          · rw [if_neg h2] at hne; simp at hne
      · rw [if_neg h0] at hv ⊢
        by_cases h1 : (bs u).length < (bs v).length
        · rw [if_pos h1] at hv; simp at hv
        · rw [if_neg h1]
  by_cases h : (u.size : Int) < v.size
  · exact evPos h (hT _ rfl ((cmpI_neg _ _).2 (.inl (by omega))))
  · refine evNeg h ?_
    by_cases h1 : (u.size : Int) = v.size
    · refine evPos h1 ?_
      rw [bytesLess_bs]
      by_cases h2 : lessL (bs u) (bs v) = true
      · exact hT _ h2 ((cmpI_neg _ _).2 (.inr ⟨by omega, h2⟩))
      · refine hF _ (by simpa using h2) (fun hc => ?_)
        rcases (cmpI_neg _ _).1 hc with g | g
        · omega
        · exact h2 g.2
    · refine evNeg h1 (hF _ rfl (fun hc => ?_))
      rcases (cmpI_neg _ _).1 hc with g | g
      · omega
      · omega

theorem ins_ok (l : List ByteArray) (w : ByteArray) (i : Nat) (hs : l.Pairwise ltB) (hlo : ∀ a ∈ l.take i, ltB a w) (hhi : ∀ a ∈ l.drop i, ltB w a) :
    (l.take i ++ [w] ++ l.drop i).Pairwise ltB ∧ (∀ a, a ∈ l.take i ++ [w] ++ l.drop i ↔ a = w ∨ a ∈ l) ∧ (l.take i ++ [w] ++ l.drop i).length ≤ l.length + 1 := by
  have hd : (l.take i ++ l.drop i).Pairwise ltB := by rw [List.take_append_drop]; exact hs
  rw [List.pairwise_append] at hd
  refine ⟨?_, ?_, ?_⟩
  · rw [List.pairwise_append, List.pairwise_append]
    refine ⟨⟨hd.1, List.pairwise_singleton _ _, ?_⟩, hd.2.1, ?_⟩
    · intro a ha b hb
      rw [List.mem_singleton] at hb
      subst hb
      exact hlo a ha
    · intro a ha b hb
      rw [List.mem_append, List.mem_singleton] at ha
      rcases ha with ha | rfl
      · exact hd.2.2 a ha b hb
      · exact hhi b hb
  · intro a
    have e : a ∈ l ↔ a ∈ l.take i ∨ a ∈ l.drop i := by rw [← List.mem_append, List.take_append_drop]
    simp only [List.mem_append, List.mem_singleton]
    rw [e]
    constructor
    · rintro ((h | h) | h)
      · exact .inr (.inl h)
      · exact .inl h
      · exact .inr (.inr h)
    · rintro (h | h | h)
      · exact .inl (.inr h)
      · exact .inl (.inl h)
      · exact .inr h
  · simp only [List.length_append, List.length_take, List.length_drop, List.length_singleton]
    omega
theorem ins_tail (l : List ByteArray) (w : ByteArray) (i : Nat) (hi : i ≤ l.length) (hl : l.length ≤ 1000000) :
    ((some (([] : List ByteArray) : List ByteArray)).bind fun y124 => (if 0 ≤ (i : Int) then (if (i : Int) ≤ (l.length : Int) then ((some (l.take ((i : Int) : Int).toNat : List ByteArray)).bind fun y127 => (if y124.length + y127.length < 8796093022208 then ((some (y124 ++ y127 : List ByteArray)).bind fun y131 => ((some (([w] : List ByteArray) : List ByteArray)).bind fun y134 => (if y131.length + y134.length < 8796093022208 then ((some (y131 ++ y134 : List ByteArray)).bind fun y137 => ((some (l.drop ((i : Int) : Int).toNat : List ByteArray)).bind fun y140 => (if y137.length + y140.length < 8796093022208 then (some (y137 ++ y140)) else (none)))) else (none)))) else (none))) else (none)) else (none))) = some (l.take i ++ [w] ++ l.drop i) := by
  simp only [Option.bind_some, Int.toNat_natCast]
  have h1 : ([] : List ByteArray).length + (l.take i).length < 8796093022208 := by rw [List.length_take]; simp; omega
  have h2 : ([] ++ l.take i : List ByteArray).length + [w].length < 8796093022208 := by simp; omega
  have h3 : ([] ++ l.take i ++ [w] : List ByteArray).length + (l.drop i).length < 8796093022208 := by simp; omega
  rw [if_pos (by omega), if_pos (by omega), if_pos h1, if_pos h2, if_pos h3]
  rfl
theorem evConst {α : Type} {x : Option α} {r : α} (h : x = some r) : Ev (fun _ => x) r := ⟨0, fun _ _ => h⟩
theorem semigroupref01_Insert_l0 (l : List ByteArray) (w : ByteArray) (hl : l.length ≤ 1000000) (hs : l.Pairwise ltB) : ∀ i : Nat, i ≤ l.length → (∀ a ∈ l.drop i, ltB w a) →
    ∃ r, Ev (fun k => semigroupref01_Insert.l0 k l w (i : Int)) r ∧ r.Pairwise ltB ∧ (∀ a, a ∈ r ↔ a = w ∨ a ∈ l) ∧ r.length ≤ l.length + 1
  | 0, _, hhi => by
    refine ⟨_, evStep (fun k => by rw [semigroupref01_Insert.l0]) (evNeg (by omega) (evConst (ins_tail l w 0 (by omega) hl))), ins_ok l w 0 hs (by simp) hhi⟩
  | j + 1, hj, hhi => by
    have e : wrap64 (((j + 1 : Nat) : Int) - 1) = (j : Int) := by unfold wrap64; omega
    have hj' : j < l.length := by omega
    have hg := rdOf_at (l := l) hj'
    have hdr : l.drop j = l[j] :: l.drop (j + 1) := List.drop_eq_getElem_cons hj'
    by_cases hc : cmpI (bs w) (bs l[j]) < 0
    · obtain ⟨r, hr, hh⟩ := semigroupref01_Insert_l0 l w hl hs j (by omega) (by
        rw [hdr]
        intro a ha
        rcases List.mem_cons.1 ha with rfl | ha
        · exact hc
        · exact hhi a ha)
      refine ⟨r, evStep (fun k => by rw [semigroupref01_Insert.l0, e, hg]) (evPos (by omega) (evPos (by omega) (evPos (by omega) (evBind (semigroupref01_Compare_ev w l[j]) (evPos hc hr))))), hh⟩
    · by_cases he : l[j] = w
      · refine ⟨l, evStep (fun k => by rw [semigroupref01_Insert.l0, e, hg]) (evPos (by omega) (evPos (by omega) (evPos (by omega) (evBind (semigroupref01_Compare_ev w l[j]) (evNeg hc (evPos (show l[j].toList = w.toList by rw [he]) (Ev.now _))))))), hs, fun a => ⟨.inr, ?_⟩, by omega⟩
        rintro (rfl | h)
        · rw [← he]; exact List.getElem_mem hj'
        · exact h
      · have hlt : ltB l[j] w := ltB_total hc (fun h => he h.symm)
        have hne : ¬ l[j].toList = w.toList := fun h => he (bs_inj ((toList_iff _ _).1 h))
        have htk : l.take (j + 1) = l.take j ++ [l[j]] := by rw [List.take_succ_eq_append_getElem hj']
        refine ⟨_, evStep (fun k => by rw [semigroupref01_Insert.l0, e, hg]) (evPos (by omega) (evPos (by omega) (evPos (by omega) (evBind (semigroupref01_Compare_ev w l[j]) (evNeg hc (evNeg hne (evConst (ins_tail l w (j + 1) hj hl)))))))), ins_ok l w (j + 1) hs ?_ hhi⟩
        have hp : (l.take j ++ l.drop j).Pairwise ltB := by rw [List.take_append_drop]; exact hs
        rw [List.pairwise_append] at hp
        intro a ha
        rw [htk, List.mem_append, List.mem_singleton] at ha
        rcases ha with ha | rfl
        · exact ltB_trans (hp.2.2 a ha l[j] (by rw [hdr]; exact List.mem_cons_self)) hlt
        · exact hlt
theorem semigroupref01_Insert_ev (l : List ByteArray) (w : ByteArray) (hl : l.length ≤ 1000000) (hs : l.Pairwise ltB) :
    ∃ r, Ev (fun k => semigroupref01_Insert.f k l w) r ∧ r.Pairwise ltB ∧ (∀ a, a ∈ r ↔ a = w ∨ a ∈ l) ∧ r.length ≤ l.length + 1 :=
  semigroupref01_Insert_l0 l w hl hs l.length (by omega) (by simp)

/-- What lists the factors of a length. -/
def FL (s : ByteArray) (n i : Nat) (l : List ByteArray) : Prop := ∀ a, a ∈ l ↔ ∃ j, j < i ∧ a = s.extract j (j + n)
theorem FL_succ {s : ByteArray} {n i : Nat} {l r : List ByteArray} (h : FL s n i l) (hr : ∀ a, a ∈ r ↔ a = s.extract i (i + n) ∨ a ∈ l) : FL s n (i + 1) r := by
  intro a
  rw [hr, h]
  constructor
  · rintro (rfl | ⟨j, hj, rfl⟩)
    · exact ⟨i, by omega, rfl⟩
    · exact ⟨j, by omega, rfl⟩
  · rintro ⟨j, hj, rfl⟩
    by_cases e : j = i
    · exact .inl (by rw [e])
    · exact .inr ⟨j, by omega, rfl⟩
theorem semigroupref01_Factors_l0 (s : ByteArray) (n : Nat) (hs : s.size ≤ 100) (hn : n ≤ s.size) : ∀ (d i : Nat) (l : List ByteArray), i + d = s.size - n + 1 → l.Pairwise ltB → l.length ≤ i → FL s n i l →
    ∃ r, Ev (fun k => semigroupref01_Factors.l0 k s (n : Int) l (i : Int)) r ∧ r.Pairwise ltB ∧ FL s n (s.size - n + 1) r ∧ r.length ≤ 1000
  | 0, i, l, hd, hp, hlen, hF => by
    have e : wrap64 ((i : Int) + (n : Int)) = ((i + n : Nat) : Int) := by unfold wrap64; omega
    refine ⟨l, evStep (fun k => by rw [semigroupref01_Factors.l0, e]) (evNeg (by omega) (Ev.now _)), hp, ?_, by omega⟩
    rw [← hd]; exact hF
  | d + 1, i, l, hd, hp, hlen, hF => by
    have e : wrap64 ((i : Int) + (n : Int)) = ((i + n : Nat) : Int) := by unfold wrap64; omega
    have e1 : wrap64 ((i : Int) + 1) = ((i + 1 : Nat) : Int) := by unfold wrap64; omega
    obtain ⟨t, ht, htp, htm, htl⟩ := semigroupref01_Insert_ev l (s.extract i (i + n)) (by omega) hp
    obtain ⟨r, hr, hh⟩ := semigroupref01_Factors_l0 s n hs hn d (i + 1) t (by omega) htp (by omega) (FL_succ hF htm)
    exact ⟨r, evStep (fun k => by rw [semigroupref01_Factors.l0, e, e1, Int.toNat_natCast, Int.toNat_natCast]) (evPos (by omega) (evPos (by omega) (evPos (by omega) (evBind ht hr)))), hh⟩

theorem u8_lt : ∀ l m : List UInt8, l < m ↔ lessL (l.map fun b => (b.toNat : Int)) (m.map fun b => (b.toNat : Int)) = true
  | [], [] => by simp [lessL]
  | a :: l, [] => by simp [lessL]
  | [], b :: m => by simp [lessL]
  | a :: l, b :: m => by
    rw [List.cons_lt_cons_iff, u8_lt l m]
    simp only [List.map_cons, lessL, Bool.or_eq_true, Bool.and_eq_true, decide_eq_true_iff]
    rw [UInt8.lt_iff_toNat_lt, ← UInt8.toNat_inj]
    constructor
    · rintro (h | ⟨h, h'⟩)
      · exact .inl (by omega)
      · exact .inr ⟨by omega, h'⟩
    · rintro (h | ⟨h, h'⟩)
      · exact .inl (by omega)
      · exact .inr ⟨by omega, h'⟩
theorem sortStrs_mem (l : List ByteArray) (a : ByteArray) : a ∈ XS.sortStrs l ↔ a ∈ l := by
  unfold XS.sortStrs
  simp only [List.mem_map, List.mem_mergeSort]
  constructor
  · rintro ⟨b, ⟨c, hc, rfl⟩, rfl⟩; exact hc
  · intro h; exact ⟨_, ⟨a, h, rfl⟩, rfl⟩
theorem sortStrs_ok (l : List ByteArray) (n : Nat) (hn : l.Nodup) (hl : ∀ a ∈ l, a.size = n) : (XS.sortStrs l).Pairwise ltB := by
  unfold XS.sortStrs
  have hnd : (l.map fun b : ByteArray => b.data.toList).Nodup := by
    rw [List.nodup_iff_pairwise_ne, List.pairwise_map]
    exact hn.imp fun {a b} h e => h (bs_inj (by unfold bs; rw [e]))
  have hp := List.mergeSort_perm (l.map fun b : ByteArray => b.data.toList) (fun x y => decide (x ≤ y))
  have hnd' := hp.symm.nodup hnd
  have hs := List.pairwise_mergeSort (le := fun x y : List UInt8 => decide (x ≤ y)) (fun a b c h h' => by simp only [decide_eq_true_iff] at *; exact List.le_trans h h') (fun a b => by simp only [Bool.or_eq_true, decide_eq_true_iff]; exact List.le_total a b) (l.map fun b : ByteArray => b.data.toList)
  rw [List.pairwise_map]
  refine (List.pairwise_and_iff.2 ⟨hs, hnd'⟩).imp_of_mem fun {x y} hx hy h => ?_
  obtain ⟨h1, h2⟩ := h
  simp only [decide_eq_true_iff] at h1
  have hlt : x < y := by
    rcases List.le_iff_lt_or_eq.1 h1 with h | h
    · exact h
    · exact absurd h h2
  rw [u8_lt] at hlt
  have sz : ∀ z ∈ (l.map fun b : ByteArray => b.data.toList).mergeSort (fun x y => decide (x ≤ y)), z.length = n := by
    intro z hz
    rw [List.mem_mergeSort, List.mem_map] at hz
    obtain ⟨a, ha, rfl⟩ := hz
    have := hl a ha
    show a.data.toList.length = n
    rw [Array.length_toList]
    exact this
  refine (cmpI_neg _ _).2 (.inr ⟨?_, hlt⟩)
  rw [bs_length, bs_length]
  show x.toArray.size = y.toArray.size
  simp [sz x hx, sz y hy]

open Go.Proofs.Ytfjmopdkpcplmab.XM in
theorem mfind_mput (l : List (ByteArray × Bool)) (k a : ByteArray) : (mfind (mput l k true) a).getD false = if a = k then true else (mfind l a).getD false := by
  induction l with
  | nil => by_cases h : a = k <;> simp [mput, mfind, h]
  | cons p l ih =>
    obtain ⟨b, v⟩ := p
    simp only [mput]
    by_cases h : k = b
    · subst h
      rw [if_pos rfl]
      simp only [mfind]
      by_cases h' : a = k <;> simp [h']
    · rw [if_neg h]
      simp only [mfind]
      by_cases h' : a = b
      · subst h'
        have hk : ¬ a = k := fun e => h e.symm
        simp [hk]
      · rw [if_neg h', if_neg h', ih]
open Go.Proofs.Ytfjmopdkpcplmab.XM in
theorem word_Factors_l0 (s : ByteArray) (n : Nat) (hs : s.size ≤ 100) (hn : n ≤ s.size) : ∀ (d i : Nat) (l : List ByteArray) (m : List (ByteArray × Bool)), i + d = s.size - n + 1 → l.Nodup → l.length ≤ i → FL s n i l → (∀ a, (mfind m a).getD false = true ↔ a ∈ l) →
    ∃ r, Ev (fun k => word_Factors.l0 k s (n : Int) l (i : Int) m) (XS.sortStrs r) ∧ r.Nodup ∧ FL s n (s.size - n + 1) r ∧ r.length ≤ 1000
  | 0, i, l, m, hd, hp, hlen, hF, hm => by
    have e : wrap64 ((i : Int) + (n : Int)) = ((i + n : Nat) : Int) := by unfold wrap64; omega
    have hss : sort_Strings.f l = some (XS.sortStrs l) := by unfold sort_Strings.f; rw [if_pos (by omega)]
    refine ⟨l, evStep (fun k => by rw [word_Factors.l0, e]) (evNeg (by omega) (evBindC hss (Ev.now _))), hp, ?_, by omega⟩
    rw [← hd]; exact hF
  | d + 1, i, l, m, hd, hp, hlen, hF, hm => by
    have e : wrap64 ((i : Int) + (n : Int)) = ((i + n : Nat) : Int) := by unfold wrap64; omega
    have e1 : wrap64 ((i : Int) + 1) = ((i + 1 : Nat) : Int) := by unfold wrap64; omega
    by_cases h : s.extract i (i + n) ∈ l
    · obtain ⟨r, hr, hh⟩ := word_Factors_l0 s n hs hn d (i + 1) l m (by omega) hp (by omega) (FL_succ hF fun a => ⟨.inr, fun h' => h'.elim (fun e => e ▸ h) id⟩) hm
      exact ⟨r, evStep (fun k => by rw [word_Factors.l0, e, e1, Int.toNat_natCast, Int.toNat_natCast]) (evPos (by omega) (evPos (by omega) (evPos (by omega) (evPos ((hm _).2 h) hr)))), hh⟩
    · obtain ⟨r, hr, hh⟩ := word_Factors_l0 s n hs hn d (i + 1) (l ++ [s.extract i (i + n)]) (mput m (s.extract i (i + n)) true) (by omega)
        (by rw [List.nodup_append]; exact ⟨hp, by simp, fun a ha b hb => by rw [List.mem_singleton] at hb; rintro rfl; exact h (hb ▸ ha)⟩)
        (by simp; omega) (FL_succ hF fun a => by rw [List.mem_append, List.mem_singleton, or_comm])
        (fun a => by
          rw [mfind_mput, List.mem_append, List.mem_singleton, ← hm]
          by_cases e : a = s.extract i (i + n) <;> simp [e])
      exact ⟨r, evStep (fun k => by rw [word_Factors.l0, e, e1, Int.toNat_natCast, Int.toNat_natCast]) (evPos (by omega) (evPos (by omega) (evPos (by omega) (evNeg (fun h' => h ((hm _).1 h')) (evPos (by omega) hr))))), hh⟩

theorem semigroupref01_Same_l0 (l : List ByteArray) (hl : l.length ≤ 1000000) : ∀ d i : Nat, i + d = l.length → Ev (fun k => semigroupref01_Same.l0 k l l (l.length : Int) (i : Int)) true
  | 0, i, hd => evStep (fun k => by rw [semigroupref01_Same.l0]) (evNeg (by omega) (Ev.now _))
  | d + 1, i, hd => by
    have e1 : wrap64 ((i : Int) + 1) = ((i + 1 : Nat) : Int) := by unfold wrap64; omega
    exact evStep (fun k => by rw [semigroupref01_Same.l0, e1]) (evPos (by omega) (evPos (by omega) (evPos (by omega) (evPos (by omega) (evPos rfl (semigroupref01_Same_l0 l hl d (i + 1) (by omega)))))))
theorem semigroupref01_Same_ev (l : List ByteArray) (hl : l.length ≤ 1000000) : Ev (fun k => semigroupref01_Same.f k l l) true :=
  by
  unfold semigroupref01_Same.f
  exact evPos rfl (semigroupref01_Same_l0 l hl l.length 0 (by omega))

theorem cut_ev (s : ByteArray) (c : Nat) : ∃ t, semigrouplaw01_cut.f s c = some t ∧ t.size ≤ c ∧ t.size ≤ s.size := by
  unfold semigrouplaw01_cut.f mn
  by_cases h : (c : Int) < s.size
  · simp only [if_pos h]
    rw [if_pos (by omega), if_pos (by omega)]
    refine ⟨_, rfl, ?_, ?_⟩
    · rw [ByteArray.size_extract]; omega
    · rw [ByteArray.size_extract]; omega
  · simp only [if_neg h]
    rw [if_pos (by omega), if_pos (by omega)]
    refine ⟨_, rfl, ?_, ?_⟩
    · rw [ByteArray.size_extract]; omega
    · rw [ByteArray.size_extract]; omega

def okB (n : Int) (c : Int) : Bool := decide (97 ≤ c) && decide ((c - 97) % 256 < n)
def vB (w : List Int) (n : Int) : Bool := decide (1 ≤ n) && decide (n ≤ 6) && decide (w.length ≤ 2048) && w.all (okB n)
theorem okB_dig {n c : Int} (h6 : n ≤ 6) (hc : 0 ≤ c ∧ c ≤ 255) (h : okB n c = true) : 97 ≤ c ∧ c ≤ 96 + n := by
  simp only [okB, Bool.and_eq_true, decide_eq_true_eq] at h
  omega
theorem dig_okB {n c : Int} (h6 : n ≤ 6) (h0 : 97 ≤ c) (h1 : c ≤ 96 + n) : okB n c = true := by
  simp only [okB, Bool.and_eq_true, decide_eq_true_eq]
  omega
theorem vB_parts {w : List Int} {n : Int} (h : vB w n = true) : 1 ≤ n ∧ n ≤ 6 ∧ w.length ≤ 2048 ∧ ∀ c ∈ w, okB n c = true := by
  simp only [vB, Bool.and_eq_true, decide_eq_true_eq, List.all_eq_true] at h
  exact ⟨h.1.1.1, h.1.1.2, h.1.2, h.2⟩

/-- The value of a numeral, its last digit first. -/
def rv (n : Int) : List Int → Int
  | [] => 0
  | d :: r => n * rv n r + d
def dig (n : Int) (r : List Int) : Prop := ∀ d ∈ r, 1 ≤ d ∧ d ≤ n
theorem dig_cons {n d : Int} {r : List Int} : dig n (d :: r) ↔ (1 ≤ d ∧ d ≤ n) ∧ dig n r := by simp [dig]
theorem six {n : Int} (h1 : 1 ≤ n) (h6 : n ≤ 6) : n = 1 ∨ n = 2 ∨ n = 3 ∨ n = 4 ∨ n = 5 ∨ n = 6 := by omega
theorem rv_nonneg {n : Int} (h1 : 1 ≤ n) : ∀ {r : List Int}, dig n r → 0 ≤ rv n r
  | [], _ => by simp [rv]
  | d :: r, h => by
    obtain ⟨hd, hr⟩ := dig_cons.1 h
    have := rv_nonneg h1 hr
    have := Int.mul_nonneg (show 0 ≤ n by omega) this
    simp only [rv]; omega
theorem rv_len {n : Int} (h1 : 1 ≤ n) : ∀ {r : List Int}, dig n r → (r.length : Int) ≤ rv n r
  | [], _ => by simp [rv]
  | d :: r, h => by
    obtain ⟨hd, hr⟩ := dig_cons.1 h
    have h2 := rv_len h1 hr
    have h0 := rv_nonneg h1 hr
    have h3 : rv n r ≤ n * rv n r := by
      have := Int.mul_le_mul_of_nonneg_right h1 h0
      omega
    simp only [rv, List.length_cons]; omega
theorem rv_pow {n : Int} (h2 : 2 ≤ n) : ∀ {r : List Int}, dig n r → (2 : Int) ^ r.length ≤ rv n r + 1
  | [], _ => by simp [rv]
  | d :: r, h => by
    obtain ⟨hd, hr⟩ := dig_cons.1 h
    have h3 := rv_pow h2 hr
    have h0 := rv_nonneg (by omega) hr
    have h4 : 2 * rv n r ≤ n * rv n r := Int.mul_le_mul_of_nonneg_right h2 h0
    simp only [rv, List.length_cons, Int.pow_succ]; omega
theorem rv_one : ∀ {r : List Int}, dig 1 r → rv 1 r = r.length
  | [], _ => by simp [rv]
  | d :: r, h => by
    obtain ⟨hd, hr⟩ := dig_cons.1 h
    have h3 := rv_one hr
    simp only [rv, List.length_cons]; omega
theorem rv_short {n : Int} (h1 : 1 ≤ n) {r : List Int} (hr : dig n r) (hm : rv n r ≤ 4611686018427387905) (ho : n = 1 → rv n r ≤ 2049) : r.length ≤ 2049 := by
  by_cases h : n = 1
  · subst h
    have := rv_one hr
    have := ho rfl
    omega
  · have h2 := rv_pow (show 2 ≤ n by omega) hr
    by_cases h3 : r.length ≤ 2049
    · exact h3
    · exfalso
      have h4 : (2 : Int) ^ 64 ≤ 2 ^ r.length := by
        have : (2 : Nat) ^ 64 ≤ 2 ^ r.length := Nat.pow_le_pow_right (by omega) (by omega)
        exact_mod_cast this
      omega
theorem rv_ex {n : Int} (h1 : 1 ≤ n) : ∀ (b : Nat) (m : Int), 0 ≤ m → m ≤ b → ∃ r, dig n r ∧ rv n r = m := by
  intro b
  induction b with
  | zero => intro m h0 hb; exact ⟨[], by simp [dig], by simp [rv]; omega⟩
  | succ b ih =>
    intro m h0 hb
    by_cases hm : m = 0
    · exact ⟨[], by simp [dig], by simp [rv]; omega⟩
    · have hq0 : 0 ≤ (m - 1) / n := Int.ediv_nonneg (by omega) (by omega)
      have hq1 : (m - 1) / n ≤ m - 1 := Int.ediv_le_self _ (by omega)
      obtain ⟨r, hr, e⟩ := ih ((m - 1) / n) hq0 (by omega)
      have hm0 := Int.emod_nonneg (m - 1) (show n ≠ 0 by omega)
      have hm1 := Int.emod_lt_of_pos (m - 1) (show 0 < n by omega)
      refine ⟨((m - 1) % n + 1) :: r, dig_cons.2 ⟨⟨by omega, by omega⟩, hr⟩, ?_⟩
      simp only [rv, e]
      have := Int.mul_ediv_add_emod (m - 1) n
      omega
theorem rv_inj {n : Int} (h1 : 1 ≤ n) (h6 : n ≤ 6) : ∀ {r s : List Int}, dig n r → dig n s → rv n r = rv n s → r = s
  | [], [], _, _, _ => rfl
  | [], e :: s, _, hs, h => by
    have := rv_len h1 hs
    simp only [List.length_cons] at this
    have h' : (0 : Int) = rv n (e :: s) := h
    omega
  | d :: r, [], hr, _, h => by
    have := rv_len h1 hr
    simp only [List.length_cons] at this
    have h' : rv n (d :: r) = (0 : Int) := h
    omega
  | d :: r, e :: s, hr, hs, h => by
    obtain ⟨hd, hr⟩ := dig_cons.1 hr
    obtain ⟨he, hs⟩ := dig_cons.1 hs
    simp only [rv] at h
    have hh : d = e ∧ rv n r = rv n s := by rcases six h1 h6 with rfl | rfl | rfl | rfl | rfl | rfl <;> omega
    rw [hh.1, rv_inj h1 h6 hr hs hh.2]
/-- The letters of a numeral, the first digit first. -/
def fwd (r : List Int) : List Int := (r.map (· + 96)).reverse
theorem fwd_cons (d : Int) (r : List Int) : fwd (d :: r) = fwd r ++ [d + 96] := by simp [fwd]
theorem fwd_length (r : List Int) : (fwd r).length = r.length := by simp [fwd]
theorem fwd_range {n : Int} (h6 : n ≤ 6) {r : List Int} (h : dig n r) : ∀ x ∈ fwd r, 0 ≤ x ∧ x ≤ 255 := by
  intro x hx
  simp only [fwd, List.mem_reverse, List.mem_map] at hx
  obtain ⟨d, hd, rfl⟩ := hx
  have := h d hd
  omega
theorem fwd_okB {n : Int} (h6 : n ≤ 6) {r : List Int} (h : dig n r) : ∀ x ∈ fwd r, okB n x = true := by
  intro x hx
  simp only [fwd, List.mem_reverse, List.mem_map] at hx
  obtain ⟨d, hd, rfl⟩ := hx
  have := h d hd
  exact dig_okB h6 (by omega) (by omega)
theorem fwd_inj : ∀ {r s : List Int}, fwd r = fwd s → r = s := by
  intro r s h
  have h1 := List.reverse_inj.1 h
  exact List.map_inj_right (f := fun x : Int => x + 96) (fun a b h => by have h' : a + 96 = b + 96 := h; omega) |>.1 h1
/-- The digits of a word. -/
def dgs (w : List Int) : List Int := (w.map (· - 96)).reverse
theorem fwd_dgs (w : List Int) : fwd (dgs w) = w := by
  simp only [fwd, dgs, List.map_reverse, List.reverse_reverse, List.map_map]
  conv => rhs; rw [← List.map_id w]
  apply List.map_congr_left
  intro x _
  simp only [Function.comp, id]; omega
theorem dgs_dig {n : Int} (h6 : n ≤ 6) {w : List Int} (hw : ∀ c ∈ w, 0 ≤ c ∧ c ≤ 255) (h : ∀ c ∈ w, okB n c = true) : dig n (dgs w) := by
  intro d hd
  simp only [dgs, List.mem_reverse, List.mem_map] at hd
  obtain ⟨c, hc, rfl⟩ := hd
  have := okB_dig h6 (hw c hc) (h c hc)
  omega
theorem rv_order {n : Int} (h1 : 1 ≤ n) (h6 : n ≤ 6) : ∀ {r s : List Int}, dig n r → dig n s → r.length = s.length → (lessL (fwd r) (fwd s) = true ↔ rv n r < rv n s)
  | [], [], _, _, _ => by simp [fwd, lessL, rv]
  | [], _ :: _, _, _, h => by simp at h
  | _ :: _, [], _, _, h => by simp at h
  | d :: r, e :: s, hr, hs, h => by
    obtain ⟨hd, hr⟩ := dig_cons.1 hr
    obtain ⟨he, hs⟩ := dig_cons.1 hs
    have hl : r.length = s.length := by simpa using h
    rw [fwd_cons, fwd_cons, lessL_snoc _ _ _ _ (by rw [fwd_length, fwd_length]; exact hl), rv_order h1 h6 hr hs hl]
    have heq : fwd r = fwd s ↔ rv n r = rv n s := ⟨fun h => by rw [fwd_inj h], fun h => by rw [rv_inj h1 h6 hr hs h]⟩
    rw [heq]
    simp only [rv]
    rcases six h1 h6 with rfl | rfl | rfl | rfl | rfl | rfl <;> omega
theorem rv_longer {n : Int} (h1 : 1 ≤ n) (h6 : n ≤ 6) : ∀ {r s : List Int}, dig n r → dig n s → r.length < s.length → rv n r < rv n s
  | [], e :: s, _, hs, _ => by
    have := rv_len h1 hs
    simp only [List.length_cons] at this
    show (0 : Int) < rv n (e :: s)
    omega
  | [], [], _, _, h => by simp at h
  | _ :: _, [], _, _, h => by simp at h
  | d :: r, e :: s, hr, hs, h => by
    obtain ⟨hd, hr⟩ := dig_cons.1 hr
    obtain ⟨he, hs⟩ := dig_cons.1 hs
    have := rv_longer h1 h6 hr hs (by simpa using h)
    simp only [rv]
    rcases six h1 h6 with rfl | rfl | rfl | rfl | rfl | rfl <;> omega
theorem rv_cmp {n : Int} (h1 : 1 ≤ n) (h6 : n ≤ 6) {r s : List Int} (hr : dig n r) (hs : dig n s) : cmpI (fwd r) (fwd s) < 0 ↔ rv n r < rv n s := by
  rw [cmpI_neg, fwd_length, fwd_length]
  constructor
  · rintro (h | ⟨h, g⟩)
    · exact rv_longer h1 h6 hr hs h
    · exact (rv_order h1 h6 hr hs h).1 g
  · intro h
    rcases Nat.lt_trichotomy r.length s.length with l | l | l
    · exact .inl l
    · exact .inr ⟨l, (rv_order h1 h6 hr hs l).2 h⟩
    · have := rv_longer h1 h6 hs hr l
      omega

theorem rep_set (t : List Int) (x : Int) : ∀ m : Nat, (List.replicate (m + 1) 0 ++ t).set m x = List.replicate m 0 ++ x :: t
  | 0 => rfl
  | m + 1 => by rw [List.replicate_succ, List.cons_append, List.set_cons_succ, rep_set t x m]; rfl
theorem word_Reverse_l0 (s : ByteArray) (hs : s.size ≤ 140737488355328) : ∀ d i : Nat, i + d = s.size → Ev (fun k => word_Reverse.l0 k s (List.replicate d 0 ++ ((bs s).take i).reverse) i) (strOfNums (bs s).reverse) := by
  intro d
  induction d with
  | zero =>
    intro i h
    refine evStep (fun k => by rw [word_Reverse.l0]) ?_
    refine evNeg (by omega) (evNow ?_)
    rw [List.take_of_length_le (by rw [bs_length]; omega)]; rfl
  | succ d ih =>
    intro i h
    refine evStep (fun k => by rw [word_Reverse.l0]) ?_
    have e1 : wrap64 ((wrap64 ((s.size : Int) - 1)) - i) = (d : Int) := by unfold wrap64; omega
    rw [e1]
    refine evPos (by omega) (evPos (by omega) (evPos (by omega) (evPos ?_ ?_)))
    · simp only [List.length_append, List.length_replicate]; omega
    · rw [wrap_succ (by omega), Int.toNat_natCast, rep_set]
      have := ih (i + 1) (by omega)
      rw [take_bt s (by omega), List.reverse_append] at this
      exact this
theorem word_Reverse_ev (s : ByteArray) (hs : s.size ≤ 140737488355328) : Ev (fun k => word_Reverse.f k s) (strOfNums (bs s).reverse) := by
  unfold word_Reverse.f
  refine evPos (by omega) (evPos (by omega) ?_)
  have := word_Reverse_l0 s hs s.size 0 (by omega)
  simpa using this

theorem word_Unrank_l0 (n : Int) (h1 : 1 ≤ n) (h6 : n ≤ 6) : ∀ (r acc : List Int), dig n r → rv n r ≤ 4611686018427387904 → acc.length + r.length ≤ 4096 → (∀ x ∈ acc, 0 ≤ x ∧ x ≤ 255) →
    Ev (fun k => word_Unrank.l0 k (rv n r) n acc) (strOfNums (fwd r ++ acc.reverse), true) := by
  intro r
  induction r with
  | nil =>
    intro acc hr hm hl ha
    refine evStep (fun k => by rw [word_Unrank.l0]) ?_
    refine evNeg (by simp [rv]) ?_
    refine evBind (word_Reverse_ev _ (by rw [strOfNums_size]; simp at hl; omega)) (evNow ?_)
    rw [bs_strOfNums ha]; rfl
  | cons d r ih =>
    intro acc hr hm hl ha
    obtain ⟨hd, hr'⟩ := dig_cons.1 hr
    have h0 := rv_nonneg h1 hr'
    have hm' : rv n (d :: r) = n * rv n r + d := rfl
    have hpos : rv n (d :: r) > 0 := by
      have := Int.mul_nonneg (show 0 ≤ n by omega) h0
      omega
    have hle : rv n r ≤ rv n (d :: r) := by
      have := Int.mul_le_mul_of_nonneg_right h1 h0
      omega
    refine evStep (fun k => by rw [word_Unrank.l0]) ?_
    refine evPos hpos (evNeg (by omega) (evPos (by omega) ?_))
    have e1 : wrap64 (rv n (d :: r) - 1) = rv n (d :: r) - 1 := wrap_id (by omega) (by omega)
    have e2 : Int.tdiv (rv n (d :: r) - 1) n = rv n r := by
      rw [Int.tdiv_eq_ediv_of_nonneg (by omega), hm']
      rcases six h1 h6 with rfl | rfl | rfl | rfl | rfl | rfl <;> omega
    have e3 : Int.tmod (rv n (d :: r) - 1) n = d - 1 := by
      rw [Int.tmod_eq_emod_of_nonneg (by omega), hm']
      rcases six h1 h6 with rfl | rfl | rfl | rfl | rfl | rfl <;> omega
    have e4 : wrap64 (rv n r) = rv n r := wrap_id (by omega) (by omega)
    have e5 : (97 + (d - 1)) % 256 = d + 96 := by omega
    rw [e1, e2, e3, e4, e5]
    have := ih (acc ++ [d + 96]) hr' (by omega) (by simp only [List.length_append, List.length_cons, List.length_nil] at hl ⊢; omega) (by
      intro x hx
      rcases List.mem_append.1 hx with h | h
      · exact ha x h
      · simp only [List.mem_singleton] at h; omega)
    rw [List.reverse_append] at this
    rw [fwd_cons, List.append_assoc]
    exact this
def mayR (m n : Int) : Bool := decide (1 ≤ n) && decide (n ≤ 6) && decide (0 ≤ m) && decide (m ≤ 4611686018427387904) && !(decide (n = 1) && decide (m > 2048))
theorem mayR_parts {m n : Int} (h : mayR m n = true) : 1 ≤ n ∧ n ≤ 6 ∧ 0 ≤ m ∧ m ≤ 4611686018427387904 ∧ (n = 1 → m ≤ 2048) := by
  simp only [mayR, Bool.and_eq_true, decide_eq_true_eq, Bool.not_eq_true', Bool.and_eq_false_iff, decide_eq_false_iff_not] at h
  refine ⟨h.1.1.1.1, h.1.1.1.2, h.1.1.2, h.1.2, fun e => ?_⟩
  have := h.2
  omega
theorem mayR_intro {m n : Int} (h : 1 ≤ n ∧ n ≤ 6 ∧ 0 ≤ m ∧ m ≤ 4611686018427387904 ∧ (n = 1 → m ≤ 2048)) : mayR m n = true := by
  simp only [mayR, Bool.and_eq_true, decide_eq_true_eq, Bool.not_eq_true', Bool.and_eq_false_iff, decide_eq_false_iff_not]
  refine ⟨⟨⟨⟨h.1, h.2.1⟩, h.2.2.1⟩, h.2.2.2.1⟩, ?_⟩
  have := h.2.2.2.2
  omega
theorem mayR_false {m n : Int} (h : mayR m n = false) : ¬ (1 ≤ n ∧ n ≤ 6 ∧ 0 ≤ m ∧ m ≤ 4611686018427387904 ∧ (n = 1 → m ≤ 2048)) := by
  intro h'
  rw [mayR_intro h'] at h
  simp at h
theorem word_Unrank_no {m n : Int} (h : mayR m n = false) : Ev (fun k => word_Unrank.f k m n) ((⟨#[]⟩ : ByteArray), false) := by
  have hf := mayR_false h
  unfold word_Unrank.f
  have hT : ∀ (b : Bool), b = true → Ev (fun k => word_Unrank.j0 k m n b) ((⟨#[]⟩ : ByteArray), false) := by
    intro b hb
    refine evStep (fun k => by rw [word_Unrank.j0]) ?_
    exact evPos hb (Ev.now _)
  by_cases h1 : n < 1
  · exact evPos h1 (hT _ rfl)
  · refine evNeg h1 ?_
    by_cases h2 : n > 6
    · exact evPos h2 (hT _ rfl)
    · refine evNeg h2 ?_
      by_cases h3 : m < 0
      · exact evPos h3 (hT _ rfl)
      · refine evNeg h3 ?_
        by_cases h4 : m > 4611686018427387904
        · exact evPos h4 (hT _ rfl)
        · refine evNeg h4 ?_
          by_cases h5 : n = 1
          · refine evPos h5 (hT _ (decide_eq_true ?_))
            omega
          · exfalso; exact hf ⟨by omega, by omega, by omega, by omega, fun e => absurd e h5⟩
theorem word_Unrank_yes {n : Int} {r : List Int} (hr : dig n r) (h : mayR (rv n r) n = true) : Ev (fun k => word_Unrank.f k (rv n r) n) (strOfNums (fwd r), true) := by
  obtain ⟨h1, h6, h0, hm, ho⟩ := mayR_parts h
  have hl := rv_short h1 hr (by omega) (by intro e; have := ho e; omega)
  have hT : ∀ (b : Bool), b = false → Ev (fun k => word_Unrank.j0 k (rv n r) n b) (strOfNums (fwd r), true) := by
    intro b hb
    refine evStep (fun k => by rw [word_Unrank.j0]) ?_
    refine evNeg (by rw [hb]; simp) ?_
    have := word_Unrank_l0 n h1 h6 r [] hr hm (by simp; omega) (by simp)
    simpa using this
  unfold word_Unrank.f
  refine evNeg (by omega) (evNeg (by omega) (evNeg (by omega) (evNeg (by omega) ?_)))
  by_cases h5 : n = 1
  · exact evPos h5 (hT _ (decide_eq_false (by have := ho h5; omega)))
  · exact evNeg h5 (hT _ rfl)

theorem word_Valid_l0 (s : ByteArray) (n : Int) (hs : s.size ≤ 140737488351232) : ∀ d i : Nat, i + d = s.size → Ev (fun k => word_Valid.l0 k s n i) (((bs s).drop i).all (okB n)) := by
  intro d
  induction d with
  | zero =>
    intro i h
    refine evStep (fun k => by rw [word_Valid.l0]) ?_
    refine evNeg (by omega) ?_
    rw [List.drop_eq_nil_of_le (by rw [bs_length]; omega)]
    exact evNow rfl
  | succ d ih =>
    intro i h
    refine evStep (fun k => by rw [word_Valid.l0]) ?_
    refine evPos (by omega) (evPos (by omega) ?_)
    rw [drop_bt s (by omega), List.all_cons]
    by_cases h1 : bt s i < 97
    · refine evPos h1 (evNow ?_)
      simp only [okB]
      rw [decide_eq_false (by omega)]; simp
    · refine evNeg h1 ?_
      by_cases h2 : ((bt s i) - 97) % 256 ≥ n
      · refine evPos h2 (evNow ?_)
        simp only [okB]
        rw [decide_eq_false (p := (bt s i - 97) % 256 < n) (by omega)]; simp
      · refine evNeg h2 ?_
        have hok : okB n (bt s i) = true := by simp only [okB, Bool.and_eq_true, decide_eq_true_eq]; omega
        rw [hok, Bool.true_and, wrap_succ (by omega)]
        exact ih (i + 1) (by omega)
theorem word_Valid_ev (s : ByteArray) (n : Int) (hs : s.size ≤ 140737488351232) : Ev (fun k => word_Valid.f k s n) (vB (bs s) n) := by
  unfold word_Valid.f
  have hT : ∀ (b : Bool), b = true → vB (bs s) n = false → Ev (fun k => word_Valid.j0 k s n b) (vB (bs s) n) := by
    intro b hb hv
    refine evStep (fun k => by rw [word_Valid.j0]) ?_
    exact evPos hb (evNow hv.symm)
  by_cases h1 : n < 1
  · exact evPos h1 (hT _ rfl (by simp only [vB]; rw [decide_eq_false (by omega)]; simp))
  · refine evNeg h1 ?_
    by_cases h2 : n > 6
    · exact evPos h2 (hT _ rfl (by simp only [vB]; rw [decide_eq_false (p := n ≤ 6) (by omega)]; simp))
    · refine evNeg h2 ?_
      by_cases h3 : (s.size : Int) > 2048
      · exact hT _ (decide_eq_true h3) (by simp only [vB]; rw [decide_eq_false (p := (bs s).length ≤ 2048) (by rw [bs_length]; omega)]; simp)
      · refine evStep (fun k => by rw [word_Valid.j0]) ?_
        refine evNeg (by rw [decide_eq_false h3]; simp) ?_
        refine evEq (word_Valid_l0 s n hs s.size 0 (by omega)) ?_
        simp only [vB]
        rw [decide_eq_true (p := 1 ≤ n) (by omega), decide_eq_true (p := n ≤ 6) (by omega), decide_eq_true (p := (bs s).length ≤ 2048) (by rw [bs_length]; omega)]
        simp

theorem awake_ev : Ev (fun k => semigrouplaw01_awake.f k) true := by
  unfold semigrouplaw01_awake.f
  have hd : dig 2 [1, 2] := by intro d hd; simp at hd; omega
  have e5 : rv 2 [1, 2] = 5 := by simp [rv]
  have h := word_Unrank_yes (n := 2) hd (by decide)
  rw [e5] at h
  refine evBind h (evPos rfl (evPos ?_ ?_))
  · show (strOfNums (fwd [1, 2])).toList = [98, 97]
    rw [ba_toList]; decide
  · refine evBind (word_Valid_ev _ 2 (by decide)) (evPos (by decide) ?_)
    refine evBind (word_Valid_ev _ 2 (by decide)) (evNow (by decide))
theorem awake_end : Ev (fun k => (semigrouplaw01_awake.f k).bind fun t => some t) true := evSome awake_ev


theorem WordFactors : semigrouplaw01_WordFactors.Pure := by
  intro w n hw hn
  refine Ev.rounds ?_
  unfold semigrouplaw01_WordFactors.f
  obtain ⟨s, hcut, hs, _⟩ := cut_ev w 100
  refine evBindC hcut ?_
  by_cases h : n < 0 ∨ n > (s.size : Int)
  · have hE : Ev (fun k => word_Factors.f k s n) ([] : List ByteArray) := by
      unfold word_Factors.f
      rcases h with h | h
      · refine evPos h (evStep (fun k => by rw [word_Factors.j0]) ?_)
        exact evPos rfl (Ev.now _)
      · by_cases h0 : n < 0
        · refine evPos h0 (evStep (fun k => by rw [word_Factors.j0]) ?_)
          exact evPos rfl (Ev.now _)
        · refine evNeg h0 (evStep (fun k => by rw [word_Factors.j0]) ?_)
          exact evPos (decide_eq_true h) (Ev.now _)
    have hJ : ∀ b, b = true → Ev (fun k => semigrouplaw01_WordFactors.j0 k s n ([] : List ByteArray) b) true := by
      rintro b rfl
      refine evStep (fun k => by rw [semigrouplaw01_WordFactors.j0]) ?_
      exact evPos rfl (evPos rfl awake_end)
    refine evBind hE ?_
    by_cases h0 : n < 0
    · exact evPos h0 (hJ _ rfl)
    · exact evNeg h0 (hJ _ (decide_eq_true (by omega)))
  · obtain ⟨m, rfl⟩ : ∃ m : Nat, n = (m : Int) := ⟨n.toNat, by omega⟩
    have hm : m ≤ s.size := by omega
    obtain ⟨r, hr, hrn, hrF, hrl⟩ := word_Factors_l0 s m hs hm (s.size - m + 1) 0 [] [] (by omega) (by simp) (by simp) (fun a => by simp) (fun a => by simp [XM.mfind])
    obtain ⟨q, hq, hqp, hqF, hql⟩ := semigroupref01_Factors_l0 s m hs hm (s.size - m + 1) 0 [] (by omega) (by simp) (by simp) (fun a => by simp)
    have hsz : ∀ a ∈ r, a.size = m := by
      intro a ha
      obtain ⟨j, hj, rfl⟩ := (hrF a).1 ha
      rw [ByteArray.size_extract]; omega
    have heq : XS.sortStrs r = q := strict_unique (sortStrs_ok r m hrn hsz) hqp fun a => by rw [sortStrs_mem, hrF, hqF]
    rw [heq] at hr
    have hf : decide ((m : Int) > (s.size : Int)) = false := decide_eq_false (by omega)
    have hE : Ev (fun k => word_Factors.f k s (m : Int)) q := by
      unfold word_Factors.f
      refine evNeg (by omega) ?_
      have hJ : ∀ b, b = false → Ev (fun k => word_Factors.j0 k s (m : Int) b) q := by
        intro b hb
        refine evStep (fun k => by rw [word_Factors.j0]) ?_
        exact evNeg (by rw [hb]; exact Bool.false_ne_true) hr
      exact hJ _ hf
    refine evBind hE (evNeg (by omega) ?_)
    have hJ : ∀ b, b = false → Ev (fun k => semigrouplaw01_WordFactors.j0 k s (m : Int) q b) true := by
      intro b hb
      refine evStep (fun k => by rw [semigrouplaw01_WordFactors.j0]) ?_
      refine evNeg (by rw [hb]; exact Bool.false_ne_true) ?_
      have hq' : Ev (fun k => semigroupref01_Factors.f k s (m : Int)) q := hq
      exact evBind hq' (evBind (semigroupref01_Same_ev q (by omega)) (evPos rfl awake_end))
    exact hJ _ hf
end Go.Proofs.Ytfjmopdkpcplmab.Pure
