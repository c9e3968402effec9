/- Plain words for the proofs of this seat: rounds of printed functions, bytes of strings as whole numbers, the order of strings. No program in sight. -/
import Derived.Test.YtfjmopdkpcplmabWMore
set_option linter.unusedVariables false
set_option linter.unusedSimpArgs false
namespace Go.Proofs.Ytfjmopdkpcplmab.Base
open Go.RowKit Go.Proofs.YtfjmopdkpcplmabW.PrintWords Go.Proofs.YtfjmopdkpcplmabW.PrintLast Go.Proofs.YtfjmopdkpcplmabW.PrintMore

theorem evPos {α : Type} {c : Prop} [Decidable c] {a b : Nat → Option α} {r : α} (h : c) (e : Ev a r) : Ev (fun k => if c then a k else b k) r := by
  simp only [if_pos h]; exact e
theorem evNeg {α : Type} {c : Prop} [Decidable c] {a b : Nat → Option α} {r : α} (h : ¬ c) (e : Ev b r) : Ev (fun k => if c then a k else b k) r := by
  simp only [if_neg h]; exact e
theorem evBind {α β : Type} {g : Nat → Option α} {f : Nat → α → Option β} {a : α} {r : β} (h : Ev g a) (k : Ev (fun n => f n a) r) : Ev (fun n => (g n).bind (f n)) r := Ev.bind h k
theorem evBindC {α β : Type} {g : Option α} {f : Nat → α → Option β} {a : α} {r : β} (h : g = some a) (k : Ev (fun n => f n a) r) : Ev (fun n => g.bind (f n)) r := by
  subst h; exact k
theorem evEq {α : Type} {g : Nat → Option α} {r r' : α} (h : Ev g r) (e : r = r') : Ev g r' := e ▸ h
theorem evNow {α : Type} {r r' : α} (e : r = r') : Ev (fun _ => some r) r' := e ▸ Ev.now r
theorem evStep {α : Type} {g f : Nat → Option α} {r : α} (h : ∀ k, g (k + 1) = f k) (k : Ev f r) : Ev g r := Ev.step h k
theorem evCongr {α : Type} {g f : Nat → Option α} {r : α} (h : ∀ k, g k = f k) (k : Ev f r) : Ev g r := Ev.congr h k
theorem evSome {α : Type} {g : Nat → Option α} {r : α} (h : Ev g r) : Ev (fun k => (g k).bind fun t => some t) r := Ev.bind h (Ev.now r)

theorem wrap_id {x : Int} (h0 : -9223372036854775808 ≤ x) (h1 : x < 9223372036854775808) : wrap64 x = x := by unfold wrap64; omega
theorem wrap_succ {i : Nat} (h : i < 9223372036854775807) : wrap64 ((i : Int) + 1) = ((i + 1 : Nat) : Int) := by unfold wrap64; omega
theorem wrap_nat {x : Nat} (h : x ≤ 4000000) : wrap64 (x : Int) = x := by unfold wrap64; omega
theorem wf_range {x : Int} (h : (Lit.int .i64 x).wf = true) : -9223372036854775808 ≤ x ∧ x < 9223372036854775808 := by
  simp [Lit.wf, IntKind.min, IntKind.max, IntKind.signed, IntKind.bits] at h
  omega

/-! ### Bytes -/
theorem toListLoop_eq (s : ByteArray) : ∀ (d i : Nat) (r : List UInt8), i + d = s.size → ByteArray.toList.loop s i r = r.reverse ++ s.data.toList.drop i := by
  intro d
  induction d with
  | zero =>
    intro i r h
    unfold ByteArray.toList.loop
    rw [if_neg (by omega), List.drop_eq_nil_of_le (by rw [Array.length_toList]; have : s.size = s.data.size := rfl; omega)]
    simp
  | succ d ih =>
    intro i r h
    unfold ByteArray.toList.loop
    rw [if_pos (by omega), ih (i + 1) _ (by omega)]
    have hi : i < s.data.toList.length := by rw [Array.length_toList]; have : s.size = s.data.size := rfl; omega
    rw [List.drop_eq_getElem_cons hi]
    have hg : s.get! i = s.data.toList[i] := by
      simp only [ByteArray.get!]
      rw [Array.getElem_toList]
      exact getElem!_pos s.data i (by have : s.size = s.data.size := rfl; omega)
    rw [hg]; simp
theorem ba_toList (s : ByteArray) : s.toList = s.data.toList := by
  unfold ByteArray.toList
  rw [toListLoop_eq s s.size 0 [] (by omega)]; simp

def bs (s : ByteArray) : List Int := s.data.toList.map fun b => (b.toNat : Int)
theorem bs_length (s : ByteArray) : (bs s).length = s.size := by
  unfold bs
  rw [List.length_map, Array.length_toList]; rfl
theorem bs_range (s : ByteArray) : ∀ x ∈ bs s, 0 ≤ x ∧ x ≤ 255 := by
  intro x hx
  simp only [bs, List.mem_map] at hx
  obtain ⟨b, _, rfl⟩ := hx
  have := b.toNat_lt
  omega
theorem bt_bs (s : ByteArray) (i : Int) : bt s i = (bs s).getD i.toNat 0 := by
  unfold bt
  by_cases h : i.toNat < s.size
  · rw [dif_pos h]
    have hl : i.toNat < (bs s).length := by rw [bs_length]; exact h
    rw [List.getD_eq_getElem?_getD, List.getElem?_eq_getElem hl, Option.getD_some]
    simp only [bs, List.getElem_map]
    congr 1
  · rw [dif_neg h, List.getD_eq_getElem?_getD, List.getElem?_eq_none (by rw [bs_length]; omega)]; rfl
theorem u8_inj : ∀ {l m : List UInt8}, l.map (fun b => (b.toNat : Int)) = m.map (fun b => (b.toNat : Int)) → l = m
  | [], [], _ => rfl
  | [], _ :: _, h => by simp at h
  | _ :: _, [], h => by simp at h
  | a :: l, b :: m, h => by
    simp only [List.map_cons, List.cons.injEq] at h
    obtain ⟨h1, h2⟩ := h
    have hab : a = b := UInt8.toNat_inj.1 (by omega)
    rw [hab, u8_inj h2]
theorem bs_inj {s t : ByteArray} (h : bs s = bs t) : s = t := by
  have h1 := u8_inj h
  cases s; cases t
  simp only [ByteArray.mk.injEq]
  exact Array.toList_inj.1 h1
theorem toList_iff (s t : ByteArray) : s.toList = t.toList ↔ bs s = bs t := by
  rw [ba_toList, ba_toList]
  constructor
  · intro h; unfold bs; rw [h]
  · intro h; exact u8_inj h
theorem toList_nil_iff (s : ByteArray) : s.toList = ([] : List UInt8) ↔ s.size = 0 := by
  rw [ba_toList]
  constructor
  · intro h
    have := congrArg List.length h
    rw [Array.length_toList] at this
    exact this
  · intro h
    apply List.eq_nil_of_length_eq_zero
    rw [Array.length_toList]
    exact h
theorem bs_extract (s : ByteArray) (a b : Nat) : bs (s.extract a b) = ((bs s).take b).drop a := by
  unfold bs
  rw [ByteArray.data_extract, Array.toList_extract]
  simp [List.extract, List.map_take, List.map_drop, List.drop_take]
theorem bs_append (s t : ByteArray) : bs (s ++ t) = bs s ++ bs t := by
  unfold bs
  rw [ByteArray.data_append]
  simp
theorem bs_strOfNums {xs : List Int} (h : ∀ x ∈ xs, 0 ≤ x ∧ x ≤ 255) : bs (strOfNums xs) = xs := by
  unfold bs strOfNums
  simp only [List.map_map]
  induction xs with
  | nil => rfl
  | cons a l ih =>
    have ha := h a (by simp)
    have hr := ih (fun x hx => h x (by simp [hx]))
    simp only [List.map_cons, List.cons.injEq]
    refine ⟨?_, hr⟩
    simp only [Function.comp, UInt8.toNat_ofNat']
    omega
theorem strOfNums_bs (s : ByteArray) : strOfNums (bs s) = s := bs_inj (bs_strOfNums (bs_range s))
theorem strOfNums_size (xs : List Int) : (strOfNums xs).size = xs.length := by simp [strOfNums, ByteArray.size]
theorem strOfNums_append (xs ys : List Int) : strOfNums (xs ++ ys) = strOfNums xs ++ strOfNums ys := by
  have h : (strOfNums (xs ++ ys)).data = (strOfNums xs ++ strOfNums ys).data := by
    rw [ByteArray.data_append]
    simp [strOfNums]
  cases hx : strOfNums (xs ++ ys)
  cases hy : strOfNums xs ++ strOfNums ys
  rw [hx, hy] at h
  simpa using h
theorem drop_bt (s : ByteArray) {i : Nat} (h : i < s.size) : (bs s).drop i = bt s i :: (bs s).drop (i + 1) := by
  rw [bt_bs, List.drop_eq_getElem_cons (by rw [bs_length]; exact h)]
  simp [List.getD_eq_getElem?_getD, bs_length, h]
theorem take_bt (s : ByteArray) {i : Nat} (h : i < s.size) : (bs s).take (i + 1) = (bs s).take i ++ [bt s i] := by
  rw [bt_bs, List.take_succ_eq_append_getElem (by rw [bs_length]; exact h)]
  simp [List.getD_eq_getElem?_getD, bs_length, h]

/-! ### The order of strings -/
def lessL : List Int → List Int → Bool
  | _, [] => false
  | [], _ :: _ => true
  | a :: x, b :: y => decide (a < b) || (decide (a = b) && lessL x y)
theorem bytesLess_map : ∀ l m : List UInt8, Op.bytesLess l m = lessL (l.map fun b => (b.toNat : Int)) (m.map fun b => (b.toNat : Int))
  | [], [] => rfl
  | _ :: _, [] => rfl
  | [], _ :: _ => rfl
  | a :: l, b :: m => by
    simp only [Op.bytesLess, List.map_cons, lessL, bytesLess_map l m]
    have h1 : decide (a < b) = decide ((a.toNat : Int) < b.toNat) := by
      apply decide_eq_decide.2
      rw [UInt8.lt_iff_toNat_lt]; omega
    have h2 : (a == b) = decide ((a.toNat : Int) = b.toNat) := by
      rw [Bool.eq_iff_iff, beq_iff_eq, decide_eq_true_iff, ← UInt8.toNat_inj]; omega
    rw [h1, h2]
theorem bytesLess_bs (s t : ByteArray) : Op.bytesLess s.toList t.toList = lessL (bs s) (bs t) := by
  rw [ba_toList, ba_toList, bytesLess_map]; rfl
theorem lessL_irrefl : ∀ x : List Int, lessL x x = false
  | [] => rfl
  | a :: x => by simp [lessL, lessL_irrefl x]
theorem lessL_asymm : ∀ x y : List Int, lessL x y = true → lessL y x = false
  | [], [], h => by simp [lessL] at h
  | _ :: _, [], h => by simp [lessL] at h
  | [], _ :: _, _ => rfl
  | a :: x, b :: y, h => by
    simp only [lessL, Bool.or_eq_true, decide_eq_true_eq, Bool.and_eq_true, Bool.or_eq_false_iff, decide_eq_false_iff_not, Bool.and_eq_false_iff] at h ⊢
    rcases h with h | ⟨h, h'⟩
    · exact ⟨by omega, .inl (by omega)⟩
    · exact ⟨by omega, .inr (lessL_asymm x y h')⟩
theorem lessL_total : ∀ x y : List Int, lessL x y = false → lessL y x = false → x = y
  | [], [], _, _ => rfl
  | _ :: _, [], _, h => by simp [lessL] at h
  | [], _ :: _, h, _ => by simp [lessL] at h
  | a :: x, b :: y, h, h' => by
    simp only [lessL, Bool.or_eq_false_iff, decide_eq_false_iff_not, Bool.and_eq_false_iff] at h h'
    have hab : a = b := by omega
    subst hab
    rw [lessL_total x y (h.2.resolve_left (by simp)) (h'.2.resolve_left (by simp))]
theorem lessL_trans : ∀ x y z : List Int, lessL x y = true → lessL y z = true → lessL x z = true
  | _, [], _, h, _ => by simp [lessL] at h
  | _, _ :: _, [], _, h => by simp [lessL] at h
  | [], _ :: _, _ :: _, _, _ => rfl
  | a :: x, b :: y, c :: z, h, h' => by
    simp only [lessL, Bool.or_eq_true, decide_eq_true_eq, Bool.and_eq_true] at h h' ⊢
    rcases h with h | ⟨h, g⟩ <;> rcases h' with h' | ⟨h', g'⟩
    · exact .inl (by omega)
    · exact .inl (by omega)
    · exact .inl (by omega)
    · exact .inr ⟨by omega, lessL_trans x y z g g'⟩
theorem lessL_snoc : ∀ (u v : List Int) (a b : Int), u.length = v.length → (lessL (u ++ [a]) (v ++ [b]) = true ↔ lessL u v = true ∨ u = v ∧ a < b)
  | [], [], a, b, _ => by simp [lessL]
  | [], _ :: _, _, _, h => by simp at h
  | _ :: _, [], _, _, h => by simp at h
  | c :: u, d :: v, a, b, h => by
    have ih := lessL_snoc u v a b (by simpa using h)
    simp only [List.cons_append, lessL, Bool.or_eq_true, decide_eq_true_eq, Bool.and_eq_true, ih, List.cons.injEq]
    constructor
    · rintro (h1 | ⟨h1, h2 | ⟨h2, h3⟩⟩)
      · exact .inl (.inl h1)
      · exact .inl (.inr ⟨h1, h2⟩)
      · exact .inr ⟨⟨h1, h2⟩, h3⟩
    · rintro ((h1 | ⟨h1, h2⟩) | ⟨⟨h1, h2⟩, h3⟩)
      · exact .inl h1
      · exact .inr ⟨h1, .inl h2⟩
      · exact .inr ⟨h1, .inr ⟨h2, h3⟩⟩

/-- The order by length, then by letters: -1, 0, 1. -/
def cmpI (u v : List Int) : Int := if u.length = v.length then (if lessL u v = true then -1 else if lessL v u = true then 1 else 0) else if u.length < v.length then -1 else 1
theorem cmpI_flip (u v : List Int) : cmpI v u = - cmpI u v := by
  unfold cmpI
  by_cases h : u.length = v.length
  · rw [if_pos h, if_pos h.symm]
    by_cases h1 : lessL u v = true
    · rw [if_pos h1, if_pos h1, if_neg (by rw [lessL_asymm _ _ h1]; simp)]; rfl
    · rw [if_neg h1, if_neg h1]
      by_cases h2 : lessL v u = true
      · rw [if_pos h2, if_pos h2]
      · rw [if_neg h2, if_neg h2]; rfl
  · rw [if_neg h, if_neg (fun e => h e.symm)]
    by_cases h1 : u.length < v.length
    · rw [if_pos h1, if_neg (by omega)]; rfl
    · rw [if_neg h1, if_pos (by omega)]
theorem cmpI_zero (u v : List Int) : cmpI u v = 0 ↔ u = v := by
  unfold cmpI
  constructor
  · intro h
    by_cases h0 : u.length = v.length
    · rw [if_pos h0] at h
      by_cases h1 : lessL u v = true
      · rw [if_pos h1] at h; simp at h
      · rw [if_neg h1] at h
        by_cases h2 : lessL v u = true
        · rw [if_pos h2] at h; simp at h
        · exact lessL_total u v (by simpa using h1) (by simpa using h2)
    · rw [if_neg h0] at h
      by_cases h1 : u.length < v.length
      · rw [if_pos h1] at h; simp at h
      · rw [if_neg h1] at h; simp at h
  · rintro rfl
    rw [if_pos rfl, lessL_irrefl]; simp
theorem cmpI_neg (u v : List Int) : cmpI u v < 0 ↔ u.length < v.length ∨ u.length = v.length ∧ lessL u v = true := by
  unfold cmpI
  by_cases h0 : u.length = v.length
  · rw [if_pos h0]
    by_cases h1 : lessL u v = true
    · rw [if_pos h1]; simp [h0, h1]
    · rw [if_neg h1]
      by_cases h2 : lessL v u = true
      · rw [if_pos h2]; simp [h0, h1]
      · rw [if_neg h2]; simp [h0, h1]
  · rw [if_neg h0]
    by_cases h1 : u.length < v.length
    · rw [if_pos h1]; simp [h1]
    · rw [if_neg h1]; simp [h1, h0]
theorem cmpI_trans {u v w : List Int} (h : cmpI u v < 0) (h' : cmpI v w < 0) : cmpI u w < 0 := by
  rw [cmpI_neg] at *
  rcases h with h | ⟨h, g⟩ <;> rcases h' with h' | ⟨h', g'⟩
  · exact .inl (by omega)
  · exact .inl (by omega)
  · exact .inl (by omega)
  · exact .inr ⟨by omega, lessL_trans _ _ _ g g'⟩
theorem cmpI_le_trans {u v w : List Int} (h : cmpI u v ≤ 0) (h' : cmpI v w ≤ 0) : cmpI u w ≤ 0 := by
  by_cases e : cmpI u v = 0
  · rw [(cmpI_zero u v).1 e]; exact h'
  · by_cases e' : cmpI v w = 0
    · rw [← (cmpI_zero v w).1 e']; exact h
    · exact Int.le_of_lt (cmpI_trans (u := u) (v := v) (w := w) (by omega) (by omega))
end Go.Proofs.Ytfjmopdkpcplmab.Base
