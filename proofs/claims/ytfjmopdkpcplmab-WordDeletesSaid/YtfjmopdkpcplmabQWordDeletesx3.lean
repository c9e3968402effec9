-- Written by pr.py (a program of this proof) for the claim: the functions and their walks.
import Derived.Test.YtfjmopdkpcplmabQWordDeletesx0
import Derived.Test.YtfjmopdkpcplmabQWordDeletesx1
import Derived.Test.YtfjmopdkpcplmabQWordDeletesx2
namespace Go.Proofs.Ytfjmopdkpcplmab.QWordDeletes
open Go.RowKit Go.Proofs.YtfjmopdkpcplmabW.PrintWords Go.Proofs.YtfjmopdkpcplmabW.PrintLast Go.Proofs.YtfjmopdkpcplmabW.PrintMore
attribute [local go_sem] Go.Proofs.Ytfjmopdkpcplmab.XW.str_gtr Go.Proofs.Ytfjmopdkpcplmab.XW.str_geq Go.Proofs.Ytfjmopdkpcplmab.XW.str_leq
attribute [local go_sem] max2_int min2_int max_two min_two max_three min_three max_four min_four   -- for this text's walks alone
set_option linter.unusedVariables false
set_option linter.unusedSimpArgs false

/-! ### word_IsSubword: function 16 -/
mutual
def word_IsSubword.l0 : Nat → ByteArray → ByteArray → Int → Int → Option (Bool)
  | 0, _, _, _, _ => none
  | k + 1, x0, x1, x5, x6 => if x6 < (x1.size : Int) then (word_IsSubword.j1 k x0 x1 x5 x6 (decide (x5 < (x0.size : Int)))) else (word_IsSubword.j1 k x0 x1 x5 x6 false)
def word_IsSubword.j1 : Nat → ByteArray → ByteArray → Int → Int → Bool → Option (Bool)
  | 0, _, _, _, _, _ => none
  | k + 1, x0, x1, x5, x6, x16 => if x16 = true then (if 0 ≤ x6 then (if x6 < (x1.size : Int) then (if 0 ≤ x5 then (if x5 < (x0.size : Int) then (if (bt x1 x6) = (bt x0 x5) then (word_IsSubword.l0 k x0 x1 (wrap64 (x5 + 1)) (wrap64 (x6 + 1))) else (word_IsSubword.l0 k x0 x1 x5 (wrap64 (x6 + 1)))) else (none)) else (none)) else (none)) else (none)) else (some (x5 == (x0.size : Int)))
end
def word_IsSubword.f (k : Nat) (a0 : ByteArray) (a1 : ByteArray) : Option (Bool) := word_IsSubword.l0 k a0 a1 0 0
theorem word_IsSubword.mono_l : ∀ k, (∀ y0 y1 y2 y3, LeO (word_IsSubword.l0 k y0 y1 y2 y3) (word_IsSubword.l0 (k + 1) y0 y1 y2 y3)) ∧ (∀ y0 y1 y2 y3 y4, LeO (word_IsSubword.j1 k y0 y1 y2 y3 y4) (word_IsSubword.j1 (k + 1) y0 y1 y2 y3 y4))
  | 0 => ⟨fun _ _ _ _ r h => by simp [word_IsSubword.l0] at h, fun _ _ _ _ _ r h => by simp [word_IsSubword.j1] at h⟩
  | k + 1 => by
    obtain ⟨ih0, ih1⟩ := word_IsSubword.mono_l k
    refine ⟨?_, ?_⟩
    · intro y0 y1 y2 y3
      unfold word_IsSubword.l0
      repeat' first
      | (with_reducible exact ih0 _ _ _ _)
      | (with_reducible exact ih1 _ _ _ _ _)
      | (with_reducible exact LeO.refl _)
      | (with_reducible exact LeO.none _)
      | (with_reducible refine LeO.ite ?_ ?_)
      | (with_reducible refine LeO.bind ?_ (fun _ => ?_))
      | exact ih0 _ _ _ _
      | exact ih1 _ _ _ _ _
      | exact LeO.none _
      | refine LeO.ite ?_ ?_
      | refine LeO.bind ?_ (fun _ => ?_)
    · intro y0 y1 y2 y3 y4
      unfold word_IsSubword.j1
      repeat' first
      | (with_reducible exact ih0 _ _ _ _)
      | (with_reducible exact ih1 _ _ _ _ _)
      | (with_reducible exact LeO.refl _)
      | (with_reducible exact LeO.none _)
      | (with_reducible refine LeO.ite ?_ ?_)
      | (with_reducible refine LeO.bind ?_ (fun _ => ?_))
      | exact ih0 _ _ _ _
      | exact ih1 _ _ _ _ _
      | exact LeO.none _
      | refine LeO.ite ?_ ?_
      | refine LeO.bind ?_ (fun _ => ?_)
theorem word_IsSubword.mono : ∀ a0 a1 k, LeO (word_IsSubword.f k a0 a1) (word_IsSubword.f (k + 1) a0 a1) := by
  intro a0 a1 k
  obtain ⟨ih0, ih1⟩ := word_IsSubword.mono_l k
  unfold word_IsSubword.f
  repeat' first
      | (with_reducible exact ih0 _ _ _ _)
      | (with_reducible exact ih1 _ _ _ _ _)
      | (with_reducible exact LeO.refl _)
      | (with_reducible exact LeO.none _)
      | (with_reducible refine LeO.ite ?_ ?_)
      | (with_reducible refine LeO.bind ?_ (fun _ => ?_))
      | exact ih0 _ _ _ _
      | exact ih1 _ _ _ _ _
      | exact LeO.none _
      | refine LeO.ite ?_ ?_
      | refine LeO.bind ?_ (fun _ => ?_)
set_option maxHeartbeats 8000000 in
set_option maxRecDepth 100000 in
theorem word_IsSubword.calls (k : Nat) (a0 : ByteArray) (a1 : ByteArray) (r : Bool) (w : World) (h : word_IsSubword.f k a0 a1 = some r) :
    Calls Try.prog 16 #[.string a0, .string a1] w fun e w' => e = .returned (.bool r) ∧ Drawn0 w w' := by
  have H : (word_IsSubword.l0 k a0 a1 0 0) = some r := h
  clear h
  have H' := Aside0.mk H
  clear H
  go_enter Try.func16, Try.ntmps16
  go_wp2
  repeat (go_quiet (fail); try go_wp2)
  go_loopg [5, 6] k (fun kq v5 v6 w' => ∃ (x5_1 : Int) (x6_1 : Int), v5 = .int .i64 x5_1 ∧ v6 = .int .i64 x6_1 ∧ Aside0 (word_IsSubword.l0 kq a0 a1 x5_1 x6_1 = some r) ∧ Aside0 (kq ≤ k) ∧ Drawn0 w w')
  case atStart => exact ⟨(0), (0), (by first | rfl | (simp; done) | (simp [*]; done)), (by first | rfl | (simp; done) | (simp [*]; done)), H', ⟨Nat.le_refl _⟩, by repeat (first | exact Drawn0.refl _ | apply Drawn0.step)⟩
  case round =>
    clear H'
    try clear c1
    try clear p2
    obtain ⟨x5_1, x6_1, rfl, rfl, HA, HK1, ⟨m1, rfl⟩⟩ := hrel
    cases gk with
    | zero => exact absurd HA.out (by simp [word_IsSubword.l0])
    | succ k1 =>
      have H := HA.out
      clear HA
      simp only [word_IsSubword.l0] at H
      have HC3 := Aside0.mk H
      clear H
      go_upto_region 3 with (fail)
      repeat (go_quiet (fail); go_upto_region 3 with (fail))
      go_cut [16] (fun v16 wc => ∃ (kq : Nat) (x16_2 : Bool), v16 = .bool x16_2 ∧ Aside0 (word_IsSubword.j1 kq a0 a1 x5_1 x6_1 x16_2 = some r) ∧ Aside0 (kq ≤ k1) ∧ Drawn0 w wc)
      case first =>
        have H := HC3.out
        clear HC3
        by_cases c4 : x6_1 < (a1.size : Int)
        · rw [if_pos c4] at H
          have c4b0 : decide (x6_1 < (a1.size : Int)) = true := decide_eq_true c4
          clear c4
          (first | rw [c4b0] | (simp only [i64_w, i32_w]; rw [c4b0]) | skip)
          have H' := Aside0.mk H
          clear H
          go_wp2
          repeat (go_quiet (fail); try go_wp2)
          go_meet
          case rel => exact ⟨_, (decide (x5_1 < (a0.size : Int))), (by first | rfl | (simp; done) | (simp [*]; done)), H', ⟨by have := HK1.out; first | omega | exact Nat.le_refl _⟩, by repeat (first | exact Drawn0.refl _ | apply Drawn0.step)⟩
        · rw [if_neg c4] at H
          have c4b0 : decide (x6_1 < (a1.size : Int)) = false := decide_eq_false c4
          clear c4
          (first | rw [c4b0] | (simp only [i64_w, i32_w]; rw [c4b0]) | skip)
          have H' := Aside0.mk H
          clear H
          go_wp2
          repeat (go_quiet (fail); try go_wp2)
          go_meet
          case rel => exact ⟨_, (false), (by first | rfl | (simp; done) | (simp [*]; done)), H', ⟨by have := HK1.out; first | omega | exact Nat.le_refl _⟩, by repeat (first | exact Drawn0.refl _ | apply Drawn0.step)⟩
      case rest =>
        clear HC3
        try clear c1
        try clear p2
        try clear c4
        try clear c4b0
        try clear p2
        obtain ⟨kq, x16_2, rfl, HA, HJ2, ⟨mc2, rfl⟩⟩ := hcut
        cases kq with
        | zero => exact absurd HA.out (by simp [word_IsSubword.j1])
        | succ kj2 =>
          have H := HA.out
          clear HA
          simp only [word_IsSubword.j1] at H
          by_cases c5 : x16_2 = true
          · subst c5
            have H1 : (if 0 ≤ x6_1 then (if x6_1 < (a1.size : Int) then (if 0 ≤ x5_1 then (if x5_1 < (a0.size : Int) then (if (bt a1 x6_1) = (bt a0 x5_1) then (word_IsSubword.l0 kj2 a0 a1 (wrap64 (x5_1 + 1)) (wrap64 (x6_1 + 1))) else (word_IsSubword.l0 kj2 a0 a1 x5_1 (wrap64 (x6_1 + 1)))) else (none)) else (none)) else (none)) else (none)) = some r := by rw [if_pos rfl] at H; exact H
            clear H
            have H := H1
            clear H1
            by_cases c6 : 0 ≤ x6_1
            · rw [if_pos c6] at H
              have c6b0 : decide (0 ≤ x6_1) = true := decide_eq_true c6
              clear c6
              by_cases c7 : x6_1 < (a1.size : Int)
              · rw [if_pos c7] at H
                have c7b0 : decide (x6_1 < (a1.size : Int)) = true := decide_eq_true c7
                clear c7
                by_cases c9 : 0 ≤ x5_1
                · rw [if_pos c9] at H
                  have c9b0 : decide (0 ≤ x5_1) = true := decide_eq_true c9
                  clear c9
                  by_cases c10 : x5_1 < (a0.size : Int)
                  · rw [if_pos c10] at H
                    have c10b0 : decide (x5_1 < (a0.size : Int)) = true := decide_eq_true c10
                    clear c10
                    by_cases c12 : (bt a1 x6_1) = (bt a0 x5_1)
                    · rw [if_pos c12] at H
                      have c12b0 : ((bt a1 x6_1) == (bt a0 x5_1)) = true := beq_iff_eq.mpr c12
                      have c12b1 : ((bt a1 x6_1) != (bt a0 x5_1)) = false := bne_eq_false_iff_eq.mpr c12
                      clear c12
                      have H' := Aside0.mk H
                      clear H
                      have p8 : 0 ≤ (x6_1 : Int) := of_decide_eq_true (by first | (with_reducible assumption) | assumption)
                      have q8 : x6_1 < (a1.size : Int) := of_decide_eq_true (by first | (with_reducible assumption) | assumption)
                      have hx8 := bt_at a1 x6_1
                      replace p8 := eq_true p8
                      replace q8 := eq_true q8
                      have p11 : 0 ≤ (x5_1 : Int) := of_decide_eq_true (by first | (with_reducible assumption) | assumption)
                      have q11 : x5_1 < (a0.size : Int) := of_decide_eq_true (by first | (with_reducible assumption) | assumption)
                      have hx11 := bt_at a0 x5_1
                      replace p11 := eq_true p11
                      replace q11 := eq_true q11
                      go_wp2
                      repeat (go_quiet (fail); try go_wp2)
                      go_roundg kj2
                      case measure => have := HK1.out; have := HJ2.out; omega
                      case rel => exact ⟨(wrap64 (x5_1 + 1)), (wrap64 (x6_1 + 1)), (by first | rfl | (simp; done) | (simp [*]; done)), (by first | rfl | (simp; done) | (simp [*]; done)), H', ⟨by have := HK1.out; have := HJ2.out; omega⟩, by repeat (first | exact Drawn0.refl _ | apply Drawn0.step)⟩
                    · rw [if_neg c12] at H
                      have c12b0 : ((bt a1 x6_1) == (bt a0 x5_1)) = false := beq_eq_false_iff_ne.mpr c12
                      have c12b1 : ((bt a1 x6_1) != (bt a0 x5_1)) = true := bne_iff_ne.mpr c12
                      have H' := Aside0.mk H
                      clear H
                      have p8 : 0 ≤ (x6_1 : Int) := of_decide_eq_true (by first | (with_reducible assumption) | assumption)
                      have q8 : x6_1 < (a1.size : Int) := of_decide_eq_true (by first | (with_reducible assumption) | assumption)
                      have hx8 := bt_at a1 x6_1
                      replace p8 := eq_true p8
                      replace q8 := eq_true q8
                      have p11 : 0 ≤ (x5_1 : Int) := of_decide_eq_true (by first | (with_reducible assumption) | assumption)
                      have q11 : x5_1 < (a0.size : Int) := of_decide_eq_true (by first | (with_reducible assumption) | assumption)
                      have hx11 := bt_at a0 x5_1
                      replace p11 := eq_true p11
                      replace q11 := eq_true q11
                      go_wp2
                      repeat (go_quiet (fail); try go_wp2)
                      go_roundg kj2
                      case measure => have := HK1.out; have := HJ2.out; omega
                      case rel => exact ⟨(x5_1), (wrap64 (x6_1 + 1)), (by first | rfl | (simp; done) | (simp [*]; done)), (by first | rfl | (simp; done) | (simp [*]; done)), H', ⟨by have := HK1.out; have := HJ2.out; omega⟩, by repeat (first | exact Drawn0.refl _ | apply Drawn0.step)⟩
                  · rw [if_neg c10] at H
                    exact absurd H (by simp)
                · rw [if_neg c9] at H
                  exact absurd H (by simp)
              · rw [if_neg c7] at H
                exact absurd H (by simp)
            · rw [if_neg c6] at H
              exact absurd H (by simp)
          · replace c5 := Bool.eq_false_iff.mpr c5
            subst c5
            have H1 : (some (x5_1 == (a0.size : Int))) = some r := by rw [if_neg (show ¬ (false = true) by decide)] at H; exact H
            clear H
            have H := H1
            clear H1
            obtain rfl := Option.some.inj H
            go_wp2
            repeat (go_quiet (fail); try go_wp2)
            go_ret
            exact ⟨by first | rfl | (simp; done) | (simp [*]; done), by repeat (first | exact Drawn0.refl _ | apply Drawn0.step)⟩

/-! ### semigrouplaw01_WordDeletes: function 5 -/
mutual
def semigrouplaw01_WordDeletes.l0 : Nat → ByteArray → List Bool → Int → Int → ByteArray → Int → Option (Bool)
  | 0, _, _, _, _, _, _ => none
  | k + 1, x0, x1, x2, x3, x9, x10 => if x10 < (x0.size : Int) then (if x10 ≥ (x1.length : Int) then (if 0 ≤ x10 then (if x10 ≤ (wrap64 (x10 + 1)) then (if (wrap64 (x10 + 1)) ≤ (x0.size : Int) then (if x9.size + (x0.extract (x10 : Int).toNat ((wrap64 (x10 + 1)) : Int).toNat).size ≤ 9223372036854775807 then (semigrouplaw01_WordDeletes.l0 k x0 x1 x2 x3 (x9 ++ (x0.extract (x10 : Int).toNat ((wrap64 (x10 + 1)) : Int).toNat)) (wrap64 (x10 + 1))) else (none)) else (none)) else (none)) else (none)) else (if 0 ≤ x10 then (if x10 < (x1.length : Int) then (if rdOf false x1 x10 = true then (if x10 ≤ (wrap64 (x10 + 1)) then (if (wrap64 (x10 + 1)) ≤ (x0.size : Int) then (if x9.size + (x0.extract (x10 : Int).toNat ((wrap64 (x10 + 1)) : Int).toNat).size ≤ 9223372036854775807 then (semigrouplaw01_WordDeletes.l0 k x0 x1 x2 x3 (x9 ++ (x0.extract (x10 : Int).toNat ((wrap64 (x10 + 1)) : Int).toNat)) (wrap64 (x10 + 1))) else (none)) else (none)) else (none)) else (semigrouplaw01_WordDeletes.l0 k x0 x1 x2 x3 x9 (wrap64 (x10 + 1)))) else (none)) else (none))) else (if x2 < 0 then (semigrouplaw01_WordDeletes.j1 k x0 x2 x3 x9 true) else (if x2 > x3 then (semigrouplaw01_WordDeletes.j1 k x0 x2 x3 x9 true) else (semigrouplaw01_WordDeletes.j1 k x0 x2 x3 x9 (decide (x3 > (x0.size : Int))))))
def semigrouplaw01_WordDeletes.j1 : Nat → ByteArray → Int → Int → ByteArray → Bool → Option (Bool)
  | 0, _, _, _, _, _ => none
  | k + 1, x0, x2, x3, x9, x48 => if x48 = true then ((word_IsSubword.f k x9 x0).bind fun t126 => (if t126 = true then ((semigrouplaw01_awake.f k).bind fun t127 => (some t127)) else (some false))) else ((word_IsSubword.f k x9 x0).bind fun t128 => (if t128 = true then (if 0 ≤ x2 then (if x2 ≤ x3 then (if x3 ≤ (x0.size : Int) then ((word_IsFactor.f k (x0.extract (x2 : Int).toNat (x3 : Int).toNat) x0).bind fun t129 => (if t129 = true then ((semigrouplaw01_awake.f k).bind fun t130 => (some t130)) else (some false))) else (none)) else (none)) else (none)) else (some false)))
end
def semigrouplaw01_WordDeletes.f (k : Nat) (a0 : ByteArray) (l1 : List Bool) (a2 : Int) (a3 : Int) : Option (Bool) := (semigrouplaw01_cut.f a0 200).bind fun t124 => (semigrouplaw01_WordDeletes.l0 k t124 l1 a2 a3 (⟨#[]⟩ : ByteArray) 0)
theorem semigrouplaw01_WordDeletes.mono_l : ∀ k, (∀ y0 y1 y2 y3 y4 y5, LeO (semigrouplaw01_WordDeletes.l0 k y0 y1 y2 y3 y4 y5) (semigrouplaw01_WordDeletes.l0 (k + 1) y0 y1 y2 y3 y4 y5)) ∧ (∀ y0 y1 y2 y3 y4, LeO (semigrouplaw01_WordDeletes.j1 k y0 y1 y2 y3 y4) (semigrouplaw01_WordDeletes.j1 (k + 1) y0 y1 y2 y3 y4))
  | 0 => ⟨fun _ _ _ _ _ _ r h => by simp [semigrouplaw01_WordDeletes.l0] at h, fun _ _ _ _ _ r h => by simp [semigrouplaw01_WordDeletes.j1] at h⟩
  | k + 1 => by
    obtain ⟨ih0, ih1⟩ := semigrouplaw01_WordDeletes.mono_l k
    refine ⟨?_, ?_⟩
    · intro y0 y1 y2 y3 y4 y5
      unfold semigrouplaw01_WordDeletes.l0
      repeat' first
      | (with_reducible exact ih0 _ _ _ _ _ _)
      | (with_reducible exact ih1 _ _ _ _ _)
      | (with_reducible exact semigrouplaw01_awake.mono _)
      | (with_reducible exact word_IsFactor.mono _ _ _)
      | (with_reducible exact word_IsSubword.mono _ _ _)
      | (with_reducible exact LeO.refl _)
      | (with_reducible exact LeO.none _)
      | (with_reducible refine LeO.ite ?_ ?_)
      | (with_reducible refine LeO.bind ?_ (fun _ => ?_))
      | exact ih0 _ _ _ _ _ _
      | exact ih1 _ _ _ _ _
      | exact semigrouplaw01_awake.mono _
      | exact word_IsFactor.mono _ _ _
      | exact word_IsSubword.mono _ _ _
      | exact LeO.none _
      | refine LeO.ite ?_ ?_
      | refine LeO.bind ?_ (fun _ => ?_)
    · intro y0 y1 y2 y3 y4
      unfold semigrouplaw01_WordDeletes.j1
      repeat' first
      | (with_reducible exact ih0 _ _ _ _ _ _)
      | (with_reducible exact ih1 _ _ _ _ _)
      | (with_reducible exact semigrouplaw01_awake.mono _)
      | (with_reducible exact word_IsFactor.mono _ _ _)
      | (with_reducible exact word_IsSubword.mono _ _ _)
      | (with_reducible exact LeO.refl _)
      | (with_reducible exact LeO.none _)
      | (with_reducible refine LeO.ite ?_ ?_)
      | (with_reducible refine LeO.bind ?_ (fun _ => ?_))
      | exact ih0 _ _ _ _ _ _
      | exact ih1 _ _ _ _ _
      | exact semigrouplaw01_awake.mono _
      | exact word_IsFactor.mono _ _ _
      | exact word_IsSubword.mono _ _ _
      | exact LeO.none _
      | refine LeO.ite ?_ ?_
      | refine LeO.bind ?_ (fun _ => ?_)
theorem semigrouplaw01_WordDeletes.mono : ∀ a0 a1 a2 a3 k, LeO (semigrouplaw01_WordDeletes.f k a0 a1 a2 a3) (semigrouplaw01_WordDeletes.f (k + 1) a0 a1 a2 a3) := by
  intro a0 a1 a2 a3 k
  obtain ⟨ih0, ih1⟩ := semigrouplaw01_WordDeletes.mono_l k
  unfold semigrouplaw01_WordDeletes.f
  repeat' first
      | (with_reducible exact ih0 _ _ _ _ _ _)
      | (with_reducible exact ih1 _ _ _ _ _)
      | (with_reducible exact semigrouplaw01_awake.mono _)
      | (with_reducible exact word_IsFactor.mono _ _ _)
      | (with_reducible exact word_IsSubword.mono _ _ _)
      | (with_reducible exact LeO.refl _)
      | (with_reducible exact LeO.none _)
      | (with_reducible refine LeO.ite ?_ ?_)
      | (with_reducible refine LeO.bind ?_ (fun _ => ?_))
      | exact ih0 _ _ _ _ _ _
      | exact ih1 _ _ _ _ _
      | exact semigrouplaw01_awake.mono _
      | exact word_IsFactor.mono _ _ _
      | exact word_IsSubword.mono _ _ _
      | exact LeO.none _
      | refine LeO.ite ?_ ?_
      | refine LeO.bind ?_ (fun _ => ?_)
set_option maxHeartbeats 8000000 in
set_option maxRecDepth 100000 in
theorem semigrouplaw01_WordDeletes.calls (k : Nat) (a0 : ByteArray) (A1 : Option Addr) (c1 : Nat) (l1 : List Bool) (a2 : Int) (a3 : Int) (r : Bool) (w : World) (hr1 : Kd.C Kd.bool w A1 l1.length l1) (hc1 : l1.length ≤ c1) (h : semigrouplaw01_WordDeletes.f k a0 l1 a2 a3 = some r) :
    Calls Try.prog 5 #[.string a0, .slice A1 l1.length c1, .int .i64 a2, .int .i64 a3] w fun e w' => e = .returned (.bool r) ∧ Below w.heap.size w w' := by
  have HR1 := Aside0.mk hr1
  have HC1 := Aside0.mk hc1
  clear hr1 hc1
  have HB := Aside0.mk (Below.refl w.heap.size w)
  have H : ((semigrouplaw01_cut.f a0 200).bind fun t124 => (semigrouplaw01_WordDeletes.l0 k t124 l1 a2 a3 (⟨#[]⟩ : ByteArray) 0)) = some r := h
  clear h
  replace H := Option.bind_eq_some_iff.mp H
  obtain ⟨t124, A50, H⟩ := H
  replace H : (semigrouplaw01_WordDeletes.l0 k t124 l1 a2 a3 (⟨#[]⟩ : ByteArray) 0) = some r := H
  have A5 := Aside0.mk A50
  clear A50
  have H' := Aside0.mk H
  clear H
  go_enter Try.func5, Try.ntmps5
  go_wp2_with (first | ((with_reducible refine gate_callee (f := 10) rfl ?_); refine goesL_ (some 12) rfl rfl Try.func10 (by kernel_rfl) rfl #[.string a0, .int .i64 200] rfl (by (try simp only [List.map_toArray, List.map_cons, List.map_nil]); first | done | rfl | (simp only [List.length_drop, List.length_take]; rfl)) ?_; (with_reducible refine (semigrouplaw01_cut.calls a0 200 t124 _ A5.out).mono ?_); rintro e w6 ⟨rfl, hb⟩; refine ⟨_, rfl, ?_⟩; have n0_ := Aside0.mk (below_step (by repeat (first | (with_reducible first | exact HB.out | apply below_alloc | apply pw_below_drewN | apply below_drew1) | exact HB.out)) hb); clear HB; have HB := n0_; clear n0_; (try clear hb); (try clear hb2); (try clear hk); (try clear hi)))
  go_loopg [9, 10] k (fun kq v9 v10 w' => ∃ (x9_1 : ByteArray) (x10_1 : Int), v9 = .string x9_1 ∧ v10 = .int .i64 x10_1 ∧ Aside0 (semigrouplaw01_WordDeletes.l0 kq t124 l1 a2 a3 x9_1 x10_1 = some r) ∧ Aside0 (kq ≤ k) ∧ Aside0 (Below w.heap.size w w'))
  case atStart => exact ⟨((⟨#[]⟩ : ByteArray)), (0), (by first | rfl | (simp; done) | (simp [*]; done)), (by first | rfl | (simp; done) | (simp [*]; done)), H', ⟨Nat.le_refl _⟩, ⟨by repeat (first | (with_reducible first | exact HB.out | apply below_alloc | apply pw_below_drewN | apply below_drew1) | exact HB.out)⟩⟩
  case round =>
    clear H'
    try clear c1
    try clear p2
    try clear c5
    obtain ⟨x9_1, x10_1, rfl, rfl, HA, HK1, HB⟩ := hrel
    cases gk with
    | zero => exact absurd HA.out (by simp [semigrouplaw01_WordDeletes.l0])
    | succ k1 =>
      have H := HA.out
      clear HA
      simp only [semigrouplaw01_WordDeletes.l0] at H
      by_cases c7 : x10_1 < (t124.size : Int)
      · rw [if_pos c7] at H
        have c7b0 : decide (x10_1 < (t124.size : Int)) = true := decide_eq_true c7
        clear c7
        by_cases c8 : x10_1 ≥ (l1.length : Int)
        · rw [if_pos c8] at H
          have c8b0 : decide ((l1.length : Int) ≤ x10_1) = true := decide_eq_true c8
          clear c8
          by_cases c9 : 0 ≤ x10_1
          · rw [if_pos c9] at H
            have c9b0 := eq_true c9
            have c9b1 : decide (0 ≤ x10_1) = true := decide_eq_true c9
            clear c9
            by_cases c10 : x10_1 ≤ (wrap64 (x10_1 + 1))
            · rw [if_pos c10] at H
              have c10b0 := eq_true c10
              have c10b1 : decide (x10_1 ≤ (wrap64 (x10_1 + 1))) = true := decide_eq_true c10
              by_cases c11 : (wrap64 (x10_1 + 1)) ≤ (t124.size : Int)
              · rw [if_pos c11] at H
                have c11b0 := eq_true c11
                have c11b1 : decide ((wrap64 (x10_1 + 1)) ≤ (t124.size : Int)) = true := decide_eq_true c11
                by_cases c12 : x9_1.size + (t124.extract (x10_1 : Int).toNat ((wrap64 (x10_1 + 1)) : Int).toNat).size ≤ 9223372036854775807
                · rw [if_pos c12] at H
                  have c12b0 := eq_true c12
                  have c12b1 : decide (x9_1.size + (t124.extract (x10_1 : Int).toNat ((wrap64 (x10_1 + 1)) : Int).toNat).size ≤ 9223372036854775807) = true := decide_eq_true c12
                  try have c12b2 : (9223372036854775807 < x9_1.size + (t124.extract (x10_1 : Int).toNat ((wrap64 (x10_1 + 1)) : Int).toNat).size) = False := eq_false (Nat.not_lt.2 c12)
                  have H' := Aside0.mk H
                  clear H
                  go_wp2
                  go_roundg k1
                  case measure => have := HK1.out; omega
                  case rel => exact ⟨(x9_1 ++ (t124.extract (x10_1 : Int).toNat ((wrap64 (x10_1 + 1)) : Int).toNat)), (wrap64 (x10_1 + 1)), (by first | rfl | (simp; done) | (simp [*]; done)), (by first | rfl | (simp; done) | (simp [*]; done)), H', ⟨by have := HK1.out; omega⟩, ⟨by repeat (first | (with_reducible first | exact HB.out | apply below_alloc | apply pw_below_drewN | apply below_drew1) | exact HB.out)⟩⟩
                · rw [if_neg c12] at H
                  exact absurd H (by simp)
              · rw [if_neg c11] at H
                exact absurd H (by simp)
            · rw [if_neg c10] at H
              exact absurd H (by simp)
          · rw [if_neg c9] at H
            exact absurd H (by simp)
        · rw [if_neg c8] at H
          have c8b0 : decide ((l1.length : Int) ≤ x10_1) = false := decide_eq_false c8
          clear c8
          by_cases c13 : 0 ≤ x10_1
          · rw [if_pos c13] at H
            have c13b0 : decide (0 ≤ x10_1) = true := decide_eq_true c13
            clear c13
            by_cases c14 : x10_1 < (l1.length : Int)
            · rw [if_pos c14] at H
              have c14b0 : decide (x10_1 < (l1.length : Int)) = true := decide_eq_true c14
              clear c14
              obtain ⟨bq15, hbq15⟩ : ∃ b_ : Bool, b_ = (rdOf false l1 x10_1) := ⟨_, rfl⟩
              replace H : (if bq15 = true then (if x10_1 ≤ (wrap64 (x10_1 + 1)) then (if (wrap64 (x10_1 + 1)) ≤ (t124.size : Int) then (if x9_1.size + (t124.extract (x10_1 : Int).toNat ((wrap64 (x10_1 + 1)) : Int).toNat).size ≤ 9223372036854775807 then (semigrouplaw01_WordDeletes.l0 k1 t124 l1 a2 a3 (x9_1 ++ (t124.extract (x10_1 : Int).toNat ((wrap64 (x10_1 + 1)) : Int).toNat)) (wrap64 (x10_1 + 1))) else (none)) else (none)) else (none)) else (semigrouplaw01_WordDeletes.l0 k1 t124 l1 a2 a3 x9_1 (wrap64 (x10_1 + 1)))) = some r := by rw [← hbq15] at H; exact H
              have Nbq15 := Aside0.mk hbq15
              clear hbq15
              by_cases c16 : bq15 = true
              · subst c16
                have H1 : (if x10_1 ≤ (wrap64 (x10_1 + 1)) then (if (wrap64 (x10_1 + 1)) ≤ (t124.size : Int) then (if x9_1.size + (t124.extract (x10_1 : Int).toNat ((wrap64 (x10_1 + 1)) : Int).toNat).size ≤ 9223372036854775807 then (semigrouplaw01_WordDeletes.l0 k1 t124 l1 a2 a3 (x9_1 ++ (t124.extract (x10_1 : Int).toNat ((wrap64 (x10_1 + 1)) : Int).toNat)) (wrap64 (x10_1 + 1))) else (none)) else (none)) else (none)) = some r := by rw [if_pos rfl] at H; exact H
                clear H
                have H := H1
                clear H1
                have c17b0 := eq_true (of_decide_eq_true (by first | (with_reducible assumption) | assumption) : 0 ≤ x10_1)
                by_cases c18 : x10_1 ≤ (wrap64 (x10_1 + 1))
                · rw [if_pos c18] at H
                  have c18b0 := eq_true c18
                  have c18b1 : decide (x10_1 ≤ (wrap64 (x10_1 + 1))) = true := decide_eq_true c18
                  by_cases c19 : (wrap64 (x10_1 + 1)) ≤ (t124.size : Int)
                  · rw [if_pos c19] at H
                    have c19b0 := eq_true c19
                    have c19b1 : decide ((wrap64 (x10_1 + 1)) ≤ (t124.size : Int)) = true := decide_eq_true c19
                    by_cases c20 : x9_1.size + (t124.extract (x10_1 : Int).toNat ((wrap64 (x10_1 + 1)) : Int).toNat).size ≤ 9223372036854775807
                    · rw [if_pos c20] at H
                      have c20b0 := eq_true c20
                      have c20b1 : decide (x9_1.size + (t124.extract (x10_1 : Int).toNat ((wrap64 (x10_1 + 1)) : Int).toNat).size ≤ 9223372036854775807) = true := decide_eq_true c20
                      try have c20b2 : (9223372036854775807 < x9_1.size + (t124.extract (x10_1 : Int).toNat ((wrap64 (x10_1 + 1)) : Int).toNat).size) = False := eq_false (Nat.not_lt.2 c20)
                      have H' := Aside0.mk H
                      clear H
                      have p125 : 0 ≤ (x10_1 : Int) := of_decide_eq_true (by first | (with_reducible assumption) | assumption)
                      have q125 : x10_1 < (l1.length : Int) := of_decide_eq_true (by first | (with_reducible assumption) | assumption)
                      obtain ⟨ad125, e125, hx125_0⟩ := Kd.at_bool HR1.out x10_1 p125 q125
                      (try rw [← Nbq15.out] at hx125_0)
                      cases e125
                      replace hx125_0 := (HB.out.cell (World.block_lt_of_cell? w _ hx125_0)).trans hx125_0
                      replace p125 := eq_true p125
                      replace q125 := eq_true q125
                      go_wp2
                      go_roundg k1
                      case measure => have := HK1.out; omega
                      case rel => exact ⟨(x9_1 ++ (t124.extract (x10_1 : Int).toNat ((wrap64 (x10_1 + 1)) : Int).toNat)), (wrap64 (x10_1 + 1)), (by first | rfl | (simp; done) | (simp [*]; done)), (by first | rfl | (simp; done) | (simp [*]; done)), H', ⟨by have := HK1.out; omega⟩, ⟨by repeat (first | (with_reducible first | exact HB.out | apply below_alloc | apply pw_below_drewN | apply below_drew1) | exact HB.out)⟩⟩
                    · rw [if_neg c20] at H
                      exact absurd H (by simp)
                  · rw [if_neg c19] at H
                    exact absurd H (by simp)
                · rw [if_neg c18] at H
                  exact absurd H (by simp)
              · replace c16 := Bool.eq_false_iff.mpr c16
                subst c16
                have H1 : (semigrouplaw01_WordDeletes.l0 k1 t124 l1 a2 a3 x9_1 (wrap64 (x10_1 + 1))) = some r := by rw [if_neg (show ¬ (false = true) by decide)] at H; exact H
                clear H
                have H := H1
                clear H1
                have H' := Aside0.mk H
                clear H
                have p125 : 0 ≤ (x10_1 : Int) := of_decide_eq_true (by first | (with_reducible assumption) | assumption)
                have q125 : x10_1 < (l1.length : Int) := of_decide_eq_true (by first | (with_reducible assumption) | assumption)
                obtain ⟨ad125, e125, hx125_0⟩ := Kd.at_bool HR1.out x10_1 p125 q125
                (try rw [← Nbq15.out] at hx125_0)
                cases e125
                replace hx125_0 := (HB.out.cell (World.block_lt_of_cell? w _ hx125_0)).trans hx125_0
                replace p125 := eq_true p125
                replace q125 := eq_true q125
                go_wp2
                go_roundg k1
                case measure => have := HK1.out; omega
                case rel => exact ⟨(x9_1), (wrap64 (x10_1 + 1)), (by first | rfl | (simp; done) | (simp [*]; done)), (by first | rfl | (simp; done) | (simp [*]; done)), H', ⟨by have := HK1.out; omega⟩, ⟨by repeat (first | (with_reducible first | exact HB.out | apply below_alloc | apply pw_below_drewN | apply below_drew1) | exact HB.out)⟩⟩
            · rw [if_neg c14] at H
              exact absurd H (by simp)
          · rw [if_neg c13] at H
            exact absurd H (by simp)
      · rw [if_neg c7] at H
        have c7b0 : decide (x10_1 < (t124.size : Int)) = false := decide_eq_false c7
        clear c7
        have HC21 := Aside0.mk H
        clear H
        go_upto_region 8 with (fail)
        go_cut [48] (fun v48 wc => ∃ (kq : Nat) (x48_20 : Bool), v48 = .bool x48_20 ∧ Aside0 (semigrouplaw01_WordDeletes.j1 kq t124 a2 a3 x9_1 x48_20 = some r) ∧ Aside0 (kq ≤ k1) ∧ Aside0 (Below w.heap.size w wc))
        case first =>
          have H := HC21.out
          clear HC21
          by_cases c22 : a2 < 0
          · rw [if_pos c22] at H
            have c22b0 : decide (a2 < 0) = true := decide_eq_true c22
            clear c22
            (first | rw [c22b0] | (simp only [i64_w, i32_w]; rw [c22b0]) | skip)
            have H' := Aside0.mk H
            clear H
            go_wp2
            go_meet
            case rel => exact ⟨_, (true), (by first | rfl | (simp; done) | (simp [*]; done)), H', ⟨by have := HK1.out; first | omega | exact Nat.le_refl _⟩, ⟨by repeat (first | (with_reducible first | exact HB.out | apply below_alloc | apply pw_below_drewN | apply below_drew1) | exact HB.out)⟩⟩
          · rw [if_neg c22] at H
            have c22b0 : decide (a2 < 0) = false := decide_eq_false c22
            clear c22
            (first | rw [c22b0] | (simp only [i64_w, i32_w]; rw [c22b0]) | skip)
            by_cases c23 : a2 > a3
            · rw [if_pos c23] at H
              have c23b0 : decide (a3 < a2) = true := decide_eq_true c23
              clear c23
              have H' := Aside0.mk H
              clear H
              go_wp2
              go_meet
              case rel => exact ⟨_, (true), (by first | rfl | (simp; done) | (simp [*]; done)), H', ⟨by have := HK1.out; first | omega | exact Nat.le_refl _⟩, ⟨by repeat (first | (with_reducible first | exact HB.out | apply below_alloc | apply pw_below_drewN | apply below_drew1) | exact HB.out)⟩⟩
            · rw [if_neg c23] at H
              have c23b0 : decide (a3 < a2) = false := decide_eq_false c23
              clear c23
              have H' := Aside0.mk H
              clear H
              go_wp2
              go_meet
              case rel => exact ⟨_, (decide (a3 > (t124.size : Int))), (by first | rfl | (simp; done) | (simp [*]; done)), H', ⟨by have := HK1.out; first | omega | exact Nat.le_refl _⟩, ⟨by repeat (first | (with_reducible first | exact HB.out | apply below_alloc | apply pw_below_drewN | apply below_drew1) | exact HB.out)⟩⟩
        case rest =>
          clear HC21
          try clear c1
          try clear p1
          try clear q1
          try clear hx1
          try clear c2
          try clear p2
          try clear c5
          try clear p6
          try clear c7
          try clear c7b0
          try clear c8
          try clear c8b0
          try clear c9
          try clear c9b0
          try clear c9b1
          try clear c10
          try clear c10b0
          try clear c10b1
          try clear c11
          try clear c11b0
          try clear c11b1
          try clear c12
          try clear c12b0
          try clear c12b1
          try clear c12b2
          try clear p12
          try clear q12
          try clear hx12
          try clear c13
          try clear c13b0
          try clear c14
          try clear c14b0
          try clear q15
          try clear c16
          try clear c17
          try clear c17b0
          try clear c18
          try clear c18b0
          try clear c18b1
          try clear c19
          try clear c19b0
          try clear c19b1
          try clear c20
          try clear c20b0
          try clear c20b1
          try clear c20b2
          try clear c22
          try clear c22b0
          try clear c23
          try clear c23b0
          try clear hx125_0
          try clear p125
          try clear p2
          try clear q125
          obtain ⟨kq, x48_20, rfl, HA, HJ20, HB⟩ := hcut
          cases kq with
          | zero => exact absurd HA.out (by simp [semigrouplaw01_WordDeletes.j1])
          | succ kj20 =>
            have H := HA.out
            clear HA
            simp only [semigrouplaw01_WordDeletes.j1] at H
            by_cases c24 : x48_20 = true
            · subst c24
              have H1 : ((word_IsSubword.f kj20 x9_1 t124).bind fun t126 => (if t126 = true then ((semigrouplaw01_awake.f kj20).bind fun t127 => (some t127)) else (some false))) = some r := by rw [if_pos rfl] at H; exact H
              clear H
              have H := H1
              clear H1
              replace H := Option.bind_eq_some_iff.mp H
              obtain ⟨t126, A250, H⟩ := H
              replace H : (if t126 = true then ((semigrouplaw01_awake.f kj20).bind fun t127 => (some t127)) else (some false)) = some r := H
              have A25 := Aside0.mk A250
              clear A250
              by_cases c26 : t126 = true
              · subst c26
                have H1 : ((semigrouplaw01_awake.f kj20).bind fun t127 => (some t127)) = some r := by rw [if_pos rfl] at H; exact H
                clear H
                have H := H1
                clear H1
                replace H := Option.bind_eq_some_iff.mp H
                obtain ⟨t127, A270, H⟩ := H
                replace H : (some t127) = some r := H
                have A27 := Aside0.mk A270
                clear A270
                obtain rfl := Option.some.inj H
                go_wp2_with (first | ((with_reducible refine gate_callee (f := 16) rfl ?_); refine goesL_ (some 51) rfl rfl Try.func16 (by kernel_rfl) rfl #[.string x9_1, .string t124] rfl (by (try simp only [List.map_toArray, List.map_cons, List.map_nil]); first | done | rfl | (simp only [List.length_drop, List.length_take]; rfl)) ?_; (with_reducible refine (word_IsSubword.calls kj20 x9_1 t124 true _ A25.out).mono ?_); rintro e w' ⟨rfl, ⟨nd, rfl⟩⟩; refine ⟨_, rfl, ?_⟩) | (go_at_call 11; (with_reducible refine (semigrouplaw01_awake.calls kj20  t127 _ A27.out).mono ?_); rintro e w28 ⟨rfl, hb⟩; have n0_ := Aside0.mk (below_step (by repeat (first | (with_reducible first | exact HB.out | apply below_alloc | apply pw_below_drewN | apply below_drew1) | exact HB.out)) hb); clear HB; have HB := n0_; clear n0_; (try clear hb); (try clear hb2); (try clear hk); (try clear hi)))
                go_ret
                exact ⟨by first | rfl | (simp [errW_none, errW_some] <;> rfl) | (simp [*, errW_none, errW_some] <;> rfl), by repeat (first | (with_reducible first | exact HB.out | apply below_alloc | apply pw_below_drewN | apply below_drew1) | exact HB.out)⟩
              · replace c26 := Bool.eq_false_iff.mpr c26
                subst c26
                have H1 : (some false) = some r := by rw [if_neg (show ¬ (false = true) by decide)] at H; exact H
                clear H
                have H := H1
                clear H1
                obtain rfl := Option.some.inj H
                go_wp2_with (first | ((with_reducible refine gate_callee (f := 16) rfl ?_); refine goesL_ (some 51) rfl rfl Try.func16 (by kernel_rfl) rfl #[.string x9_1, .string t124] rfl (by (try simp only [List.map_toArray, List.map_cons, List.map_nil]); first | done | rfl | (simp only [List.length_drop, List.length_take]; rfl)) ?_; (with_reducible refine (word_IsSubword.calls kj20 x9_1 t124 false _ A25.out).mono ?_); rintro e w' ⟨rfl, ⟨nd, rfl⟩⟩; refine ⟨_, rfl, ?_⟩))
                go_ret
                exact ⟨by first | rfl | (simp [errW_none, errW_some] <;> rfl) | (simp [*, errW_none, errW_some] <;> rfl), by repeat (first | (with_reducible first | exact HB.out | apply below_alloc | apply pw_below_drewN | apply below_drew1) | exact HB.out)⟩
            · replace c24 := Bool.eq_false_iff.mpr c24
              subst c24
              have H1 : ((word_IsSubword.f kj20 x9_1 t124).bind fun t128 => (if t128 = true then (if 0 ≤ a2 then (if a2 ≤ a3 then (if a3 ≤ (t124.size : Int) then ((word_IsFactor.f kj20 (t124.extract (a2 : Int).toNat (a3 : Int).toNat) t124).bind fun t129 => (if t129 = true then ((semigrouplaw01_awake.f kj20).bind fun t130 => (some t130)) else (some false))) else (none)) else (none)) else (none)) else (some false))) = some r := by rw [if_neg (show ¬ (false = true) by decide)] at H; exact H
              clear H
              have H := H1
              clear H1
              replace H := Option.bind_eq_some_iff.mp H
              obtain ⟨t128, A290, H⟩ := H
              replace H : (if t128 = true then (if 0 ≤ a2 then (if a2 ≤ a3 then (if a3 ≤ (t124.size : Int) then ((word_IsFactor.f kj20 (t124.extract (a2 : Int).toNat (a3 : Int).toNat) t124).bind fun t129 => (if t129 = true then ((semigrouplaw01_awake.f kj20).bind fun t130 => (some t130)) else (some false))) else (none)) else (none)) else (none)) else (some false)) = some r := H
              have A29 := Aside0.mk A290
              clear A290
              by_cases c30 : t128 = true
              · subst c30
                have H1 : (if 0 ≤ a2 then (if a2 ≤ a3 then (if a3 ≤ (t124.size : Int) then ((word_IsFactor.f kj20 (t124.extract (a2 : Int).toNat (a3 : Int).toNat) t124).bind fun t129 => (if t129 = true then ((semigrouplaw01_awake.f kj20).bind fun t130 => (some t130)) else (some false))) else (none)) else (none)) else (none)) = some r := by rw [if_pos rfl] at H; exact H
                clear H
                have H := H1
                clear H1
                by_cases c31 : 0 ≤ a2
                · rw [if_pos c31] at H
                  have c31b0 := eq_true c31
                  have c31b1 : decide (0 ≤ a2) = true := decide_eq_true c31
                  clear c31
                  by_cases c32 : a2 ≤ a3
                  · rw [if_pos c32] at H
                    have c32b0 := eq_true c32
                    have c32b1 : decide (a2 ≤ a3) = true := decide_eq_true c32
                    clear c32
                    by_cases c33 : a3 ≤ (t124.size : Int)
                    · rw [if_pos c33] at H
                      have c33b0 := eq_true c33
                      have c33b1 : decide (a3 ≤ (t124.size : Int)) = true := decide_eq_true c33
                      clear c33
                      replace H := Option.bind_eq_some_iff.mp H
                      obtain ⟨t129, A340, H⟩ := H
                      replace H : (if t129 = true then ((semigrouplaw01_awake.f kj20).bind fun t130 => (some t130)) else (some false)) = some r := H
                      have A34 := Aside0.mk A340
                      clear A340
                      by_cases c35 : t129 = true
                      · subst c35
                        have H1 : ((semigrouplaw01_awake.f kj20).bind fun t130 => (some t130)) = some r := by rw [if_pos rfl] at H; exact H
                        clear H
                        have H := H1
                        clear H1
                        replace H := Option.bind_eq_some_iff.mp H
                        obtain ⟨t130, A360, H⟩ := H
                        replace H : (some t130) = some r := H
                        have A36 := Aside0.mk A360
                        clear A360
                        obtain rfl := Option.some.inj H
                        go_wp2_with (first | ((with_reducible refine gate_callee (f := 16) rfl ?_); refine goesL_ (some 57) rfl rfl Try.func16 (by kernel_rfl) rfl #[.string x9_1, .string t124] rfl (by (try simp only [List.map_toArray, List.map_cons, List.map_nil]); first | done | rfl | (simp only [List.length_drop, List.length_take]; rfl)) ?_; (with_reducible refine (word_IsSubword.calls kj20 x9_1 t124 true _ A29.out).mono ?_); rintro e w' ⟨rfl, ⟨nd, rfl⟩⟩; refine ⟨_, rfl, ?_⟩) | (go_at_call 15; (with_reducible refine (word_IsFactor.calls kj20 (t124.extract (a2 : Int).toNat (a3 : Int).toNat) t124 true _ A34.out).mono ?_); rintro e w37 ⟨rfl, hb⟩; have n0_ := Aside0.mk (below_step (by repeat (first | (with_reducible first | exact HB.out | apply below_alloc | apply pw_below_drewN | apply below_drew1) | exact HB.out)) hb); clear HB; have HB := n0_; clear n0_; (try clear hb); (try clear hb2); (try clear hk); (try clear hi)) | (go_at_call 11; (with_reducible refine (semigrouplaw01_awake.calls kj20  t130 _ A36.out).mono ?_); rintro e w38 ⟨rfl, hb⟩; have n0_ := Aside0.mk (below_step (by repeat (first | (with_reducible first | exact HB.out | apply below_alloc | apply pw_below_drewN | apply below_drew1) | exact HB.out)) hb); clear HB; have HB := n0_; clear n0_; (try clear hb); (try clear hb2); (try clear hk); (try clear hi)))
                        go_ret
                        exact ⟨by first | rfl | (simp [errW_none, errW_some] <;> rfl) | (simp [*, errW_none, errW_some] <;> rfl), by repeat (first | (with_reducible first | exact HB.out | apply below_alloc | apply pw_below_drewN | apply below_drew1) | exact HB.out)⟩
                      · replace c35 := Bool.eq_false_iff.mpr c35
                        subst c35
                        have H1 : (some false) = some r := by rw [if_neg (show ¬ (false = true) by decide)] at H; exact H
                        clear H
                        have H := H1
                        clear H1
                        obtain rfl := Option.some.inj H
                        go_wp2_with (first | ((with_reducible refine gate_callee (f := 16) rfl ?_); refine goesL_ (some 57) rfl rfl Try.func16 (by kernel_rfl) rfl #[.string x9_1, .string t124] rfl (by (try simp only [List.map_toArray, List.map_cons, List.map_nil]); first | done | rfl | (simp only [List.length_drop, List.length_take]; rfl)) ?_; (with_reducible refine (word_IsSubword.calls kj20 x9_1 t124 true _ A29.out).mono ?_); rintro e w' ⟨rfl, ⟨nd, rfl⟩⟩; refine ⟨_, rfl, ?_⟩) | (go_at_call 15; (with_reducible refine (word_IsFactor.calls kj20 (t124.extract (a2 : Int).toNat (a3 : Int).toNat) t124 false _ A34.out).mono ?_); rintro e w39 ⟨rfl, hb⟩; have n0_ := Aside0.mk (below_step (by repeat (first | (with_reducible first | exact HB.out | apply below_alloc | apply pw_below_drewN | apply below_drew1) | exact HB.out)) hb); clear HB; have HB := n0_; clear n0_; (try clear hb); (try clear hb2); (try clear hk); (try clear hi)))
                        go_ret
                        exact ⟨by first | rfl | (simp [errW_none, errW_some] <;> rfl) | (simp [*, errW_none, errW_some] <;> rfl), by repeat (first | (with_reducible first | exact HB.out | apply below_alloc | apply pw_below_drewN | apply below_drew1) | exact HB.out)⟩
                    · rw [if_neg c33] at H
                      exact absurd H (by simp)
                  · rw [if_neg c32] at H
                    exact absurd H (by simp)
                · rw [if_neg c31] at H
                  exact absurd H (by simp)
              · replace c30 := Bool.eq_false_iff.mpr c30
                subst c30
                have H1 : (some false) = some r := by rw [if_neg (show ¬ (false = true) by decide)] at H; exact H
                clear H
                have H := H1
                clear H1
                obtain rfl := Option.some.inj H
                go_wp2_with (first | ((with_reducible refine gate_callee (f := 16) rfl ?_); refine goesL_ (some 57) rfl rfl Try.func16 (by kernel_rfl) rfl #[.string x9_1, .string t124] rfl (by (try simp only [List.map_toArray, List.map_cons, List.map_nil]); first | done | rfl | (simp only [List.length_drop, List.length_take]; rfl)) ?_; (with_reducible refine (word_IsSubword.calls kj20 x9_1 t124 false _ A29.out).mono ?_); rintro e w' ⟨rfl, ⟨nd, rfl⟩⟩; refine ⟨_, rfl, ?_⟩))
                go_ret
                exact ⟨by first | rfl | (simp [errW_none, errW_some] <;> rfl) | (simp [*, errW_none, errW_some] <;> rfl), by repeat (first | (with_reducible first | exact HB.out | apply below_alloc | apply pw_below_drewN | apply below_drew1) | exact HB.out)⟩

end Go.Proofs.Ytfjmopdkpcplmab.QWordDeletes
