-- Written by pr.py (a program of this proof) for the claim: the functions and their walks.
import Derived.Test.YtfjmopdkpcplmabQWordConjugatesx0
import Derived.Test.YtfjmopdkpcplmabQWordConjugatesx1
import Derived.Test.YtfjmopdkpcplmabQWordConjugatesx2
namespace Go.Proofs.Ytfjmopdkpcplmab.QWordConjugates
open Go.RowKit Go.Proofs.YtfjmopdkpcplmabW.PrintWords Go.Proofs.YtfjmopdkpcplmabW.PrintLast Go.Proofs.YtfjmopdkpcplmabW.PrintMore
attribute [local go_sem] Go.Proofs.Ytfjmopdkpcplmab.XW.str_gtr Go.Proofs.Ytfjmopdkpcplmab.XW.str_geq Go.Proofs.Ytfjmopdkpcplmab.XW.str_leq
attribute [local go_sem] max2_int min2_int max_two min_two max_three min_three max_four min_four   -- for this text's walks alone
set_option linter.unusedVariables false
set_option linter.unusedSimpArgs false

/-! ### word_IsFactor: function 15 -/
mutual
def word_IsFactor.l0 : Nat → ByteArray → ByteArray → List Int → Int → Int → Option (Bool)
  | 0, _, _, _, _, _ => none
  | k + 1, x0, x1, x5, x6, x7 => if x7 < (x1.size : Int) then (word_IsFactor.l1 k x0 x1 x5 x6 x7) else (some false)
def word_IsFactor.j2 : Nat → ByteArray → ByteArray → List Int → Int → Int → Option (Bool)
  | 0, _, _, _, _, _ => none
  | k + 1, x0, x1, x5, x6, x7 => if 0 ≤ x7 then (if x7 < (x1.size : Int) then (if 0 ≤ x6 then (if x6 < (x0.size : Int) then (if (bt x1 x7) = (bt x0 x6) then (if (wrap64 (x6 + 1)) = (x0.size : Int) then (some true) else (word_IsFactor.l0 k x0 x1 x5 (wrap64 (x6 + 1)) (wrap64 (x7 + 1)))) else (if x6 = (x0.size : Int) then (some true) else (word_IsFactor.l0 k x0 x1 x5 x6 (wrap64 (x7 + 1))))) else (none)) else (none)) else (none)) else (none)
def word_IsFactor.l1 : Nat → ByteArray → ByteArray → List Int → Int → Int → Option (Bool)
  | 0, _, _, _, _, _ => none
  | k + 1, x0, x1, x5, x6, x7 => if x6 > 0 then (if 0 ≤ x7 then (if x7 < (x1.size : Int) then (if 0 ≤ x6 then (if x6 < (x0.size : Int) then (if (bt x1 x7) = (bt x0 x6) then (word_IsFactor.j2 k x0 x1 x5 x6 x7) else (if x6 < (x5.length : Int) then (word_IsFactor.l1 k x0 x1 x5 (rd x5 x6) x7) else (none))) else (none)) else (none)) else (none)) else (none)) else (word_IsFactor.j2 k x0 x1 x5 x6 x7)
end
def word_IsFactor.f (k : Nat) (a0 : ByteArray) (a1 : ByteArray) : Option (Bool) := if (a0.size : Int) = 0 then (some true) else ((word_borders.f k a0).bind fun t125 => (word_IsFactor.l0 k a0 a1 t125 0 0))
theorem word_IsFactor.mono_l : ∀ k, (∀ y0 y1 y2 y3 y4, LeO (word_IsFactor.l0 k y0 y1 y2 y3 y4) (word_IsFactor.l0 (k + 1) y0 y1 y2 y3 y4)) ∧ (∀ y0 y1 y2 y3 y4, LeO (word_IsFactor.j2 k y0 y1 y2 y3 y4) (word_IsFactor.j2 (k + 1) y0 y1 y2 y3 y4)) ∧ (∀ y0 y1 y2 y3 y4, LeO (word_IsFactor.l1 k y0 y1 y2 y3 y4) (word_IsFactor.l1 (k + 1) y0 y1 y2 y3 y4))
  | 0 => ⟨fun _ _ _ _ _ r h => by simp [word_IsFactor.l0] at h, fun _ _ _ _ _ r h => by simp [word_IsFactor.j2] at h, fun _ _ _ _ _ r h => by simp [word_IsFactor.l1] at h⟩
  | k + 1 => by
    obtain ⟨ih0, ih1, ih2⟩ := word_IsFactor.mono_l k
    refine ⟨?_, ?_, ?_⟩
    · intro y0 y1 y2 y3 y4
      unfold word_IsFactor.l0
      repeat' first
      | (with_reducible exact ih0 _ _ _ _ _)
      | (with_reducible exact ih1 _ _ _ _ _)
      | (with_reducible exact ih2 _ _ _ _ _)
      | (with_reducible exact word_borders.mono _ _)
      | (with_reducible exact LeO.refl _)
      | (with_reducible exact LeO.none _)
      | (with_reducible refine LeO.ite ?_ ?_)
      | (with_reducible refine LeO.bind ?_ (fun _ => ?_))
      | exact ih0 _ _ _ _ _
      | exact ih1 _ _ _ _ _
      | exact ih2 _ _ _ _ _
      | exact word_borders.mono _ _
      | exact LeO.none _
      | refine LeO.ite ?_ ?_
      | refine LeO.bind ?_ (fun _ => ?_)
    · intro y0 y1 y2 y3 y4
      unfold word_IsFactor.j2
      repeat' first
      | (with_reducible exact ih0 _ _ _ _ _)
      | (with_reducible exact ih1 _ _ _ _ _)
      | (with_reducible exact ih2 _ _ _ _ _)
      | (with_reducible exact word_borders.mono _ _)
      | (with_reducible exact LeO.refl _)
      | (with_reducible exact LeO.none _)
      | (with_reducible refine LeO.ite ?_ ?_)
      | (with_reducible refine LeO.bind ?_ (fun _ => ?_))
      | exact ih0 _ _ _ _ _
      | exact ih1 _ _ _ _ _
      | exact ih2 _ _ _ _ _
      | exact word_borders.mono _ _
      | exact LeO.none _
      | refine LeO.ite ?_ ?_
      | refine LeO.bind ?_ (fun _ => ?_)
    · intro y0 y1 y2 y3 y4
      unfold word_IsFactor.l1
      repeat' first
      | (with_reducible exact ih0 _ _ _ _ _)
      | (with_reducible exact ih1 _ _ _ _ _)
      | (with_reducible exact ih2 _ _ _ _ _)
      | (with_reducible exact word_borders.mono _ _)
      | (with_reducible exact LeO.refl _)
      | (with_reducible exact LeO.none _)
      | (with_reducible refine LeO.ite ?_ ?_)
      | (with_reducible refine LeO.bind ?_ (fun _ => ?_))
      | exact ih0 _ _ _ _ _
      | exact ih1 _ _ _ _ _
      | exact ih2 _ _ _ _ _
      | exact word_borders.mono _ _
      | exact LeO.none _
      | refine LeO.ite ?_ ?_
      | refine LeO.bind ?_ (fun _ => ?_)
theorem word_IsFactor.mono : ∀ a0 a1 k, LeO (word_IsFactor.f k a0 a1) (word_IsFactor.f (k + 1) a0 a1) := by
  intro a0 a1 k
  obtain ⟨ih0, ih1, ih2⟩ := word_IsFactor.mono_l k
  unfold word_IsFactor.f
  repeat' first
      | (with_reducible exact ih0 _ _ _ _ _)
      | (with_reducible exact ih1 _ _ _ _ _)
      | (with_reducible exact ih2 _ _ _ _ _)
      | (with_reducible exact word_borders.mono _ _)
      | (with_reducible exact LeO.refl _)
      | (with_reducible exact LeO.none _)
      | (with_reducible refine LeO.ite ?_ ?_)
      | (with_reducible refine LeO.bind ?_ (fun _ => ?_))
      | exact ih0 _ _ _ _ _
      | exact ih1 _ _ _ _ _
      | exact ih2 _ _ _ _ _
      | exact word_borders.mono _ _
      | exact LeO.none _
      | refine LeO.ite ?_ ?_
      | refine LeO.bind ?_ (fun _ => ?_)
set_option maxHeartbeats 8000000 in
set_option maxRecDepth 100000 in
theorem word_IsFactor.calls (k : Nat) (a0 : ByteArray) (a1 : ByteArray) (r : Bool) (w : World) (h : word_IsFactor.f k a0 a1 = some r) :
    Calls Try.prog 15 #[.string a0, .string a1] w fun e w' => e = .returned (.bool r) ∧ Below w.heap.size w w' := by
  have HB := Aside0.mk (Below.refl w.heap.size w)
  have H : (if (a0.size : Int) = 0 then (some true) else ((word_borders.f k a0).bind fun t125 => (word_IsFactor.l0 k a0 a1 t125 0 0))) = some r := h
  clear h
  by_cases c3 : (a0.size : Int) = 0
  · rw [if_pos c3] at H
    have c3b0 : ((a0.size : Int) == 0) = true := beq_iff_eq.mpr c3
    have c3b1 : ((a0.size : Int) != 0) = false := bne_eq_false_iff_eq.mpr c3
    clear c3
    obtain rfl := Option.some.inj H
    go_enter Try.func15, Try.ntmps15
    go_wp2
    repeat (go_quiet (fail); try go_wp2)
    go_ret
    exact ⟨by first | rfl | (simp [errW_none, errW_some] <;> rfl) | (simp [*, errW_none, errW_some] <;> rfl), by repeat (first | (with_reducible first | exact HB.out | apply below_alloc | apply pw_below_drewN | apply below_drew1) | exact HB.out)⟩
  · rw [if_neg c3] at H
    have c3b0 : ((a0.size : Int) == 0) = false := beq_eq_false_iff_ne.mpr c3
    have c3b1 : ((a0.size : Int) != 0) = true := bne_iff_ne.mpr c3
    replace H := Option.bind_eq_some_iff.mp H
    obtain ⟨t125, A40, H⟩ := H
    replace H : (word_IsFactor.l0 k a0 a1 t125 0 0) = some r := H
    have A4 := Aside0.mk A40
    clear A40
    have H' := Aside0.mk H
    clear H
    go_enter Try.func15, Try.ntmps15
    go_wp2_with (first | (go_at_call 31; (with_reducible refine (word_borders.calls k a0 t125 _ A4.out).mono ?_); rintro e w5 ⟨v126, rfl, ho0, hb⟩; have n0_ := Aside0.mk (Kd.R_lower ho0 (below_size (by repeat (first | (with_reducible first | exact HB.out | apply below_alloc | apply pw_below_drewN | apply below_drew1) | exact HB.out)))); have n1_ := Aside0.mk (below_step (by repeat (first | (with_reducible first | exact HB.out | apply below_alloc | apply pw_below_drewN | apply below_drew1) | exact HB.out)) hb); clear HB; have HO127 := n0_; have HB := n1_; clear n0_ n1_; (try clear hb); (try clear hb2); (try clear hk); (try clear hi); (try clear ho0)))
    repeat (go_quiet (first | (go_at_call 31; (with_reducible refine (word_borders.calls k a0 t125 _ A4.out).mono ?_); rintro e w5 ⟨v126, rfl, ho0, hb⟩; have n0_ := Aside0.mk (Kd.R_lower ho0 (below_size (by repeat (first | (with_reducible first | exact HB.out | apply below_alloc | apply pw_below_drewN | apply below_drew1) | exact HB.out)))); have n1_ := Aside0.mk (below_step (by repeat (first | (with_reducible first | exact HB.out | apply below_alloc | apply pw_below_drewN | apply below_drew1) | exact HB.out)) hb); clear HB; have HO127 := n0_; have HB := n1_; clear n0_ n1_; (try clear hb); (try clear hb2); (try clear hk); (try clear hi); (try clear ho0))); try go_wp2_with (first | (go_at_call 31; (with_reducible refine (word_borders.calls k a0 t125 _ A4.out).mono ?_); rintro e w5 ⟨v126, rfl, ho0, hb⟩; have n0_ := Aside0.mk (Kd.R_lower ho0 (below_size (by repeat (first | (with_reducible first | exact HB.out | apply below_alloc | apply pw_below_drewN | apply below_drew1) | exact HB.out)))); have n1_ := Aside0.mk (below_step (by repeat (first | (with_reducible first | exact HB.out | apply below_alloc | apply pw_below_drewN | apply below_drew1) | exact HB.out)) hb); clear HB; have HO127 := n0_; have HB := n1_; clear n0_ n1_; (try clear hb); (try clear hb2); (try clear hk); (try clear hi); (try clear ho0))))
    go_loopg [6, 7] k (fun kq v6 v7 w' => ∃ (x6_1 : Int) (x7_1 : Int), v6 = .int .i64 x6_1 ∧ v7 = .int .i64 x7_1 ∧ Aside0 (word_IsFactor.l0 kq a0 a1 t125 x6_1 x7_1 = some r) ∧ Aside0 (kq ≤ k) ∧ Aside0 (Kd.R (Kd.int .i64) 3 w' w.heap.size (fun _ => True) v126 t125) ∧ Aside0 (Below w.heap.size w w'))
    case atStart => exact ⟨(0), (0), (by first | rfl | (simp; done) | (simp [*]; done)), (by first | rfl | (simp; done) | (simp [*]; done)), H', ⟨Nat.le_refl _⟩, ⟨by (with_reducible repeat (first | apply Kd.R_alloc | apply Kd.R_drewN | apply Kd.R_drew)); exact HO127.out⟩, ⟨by repeat (first | (with_reducible first | exact HB.out | apply below_alloc | apply pw_below_drewN | apply below_drew1) | exact HB.out)⟩⟩
    case round =>
      clear H'
      try clear c1
      try clear p2
      try clear c3
      try clear c3b0
      try clear c3b1
      obtain ⟨x6_1, x7_1, rfl, rfl, HA, HK1, HO_5, HB⟩ := hrel
      cases gk with
      | zero => exact absurd HA.out (by simp [word_IsFactor.l0])
      | succ k1 =>
        have H := HA.out
        clear HA
        simp only [word_IsFactor.l0] at H
        by_cases c6 : x7_1 < (a1.size : Int)
        · rw [if_pos c6] at H
          have c6b0 : decide (x7_1 < (a1.size : Int)) = true := decide_eq_true c6
          clear c6
          have HC7 := Aside0.mk H
          clear H
          go_upto_block 2 with (fail)
          repeat (go_quiet (fail); go_upto_block 2 with (fail))
          go_cut [6] (fun v6 wc => ∃ (kq : Nat) (x6_6 : Int), v6 = .int .i64 x6_6 ∧ Aside0 (word_IsFactor.j2 kq a0 a1 t125 x6_6 x7_1 = some r) ∧ Aside0 (kq ≤ k1) ∧ Aside0 (Kd.R (Kd.int .i64) 3 wc w.heap.size (fun _ => True) v126 t125) ∧ Aside0 (Below w.heap.size w wc))
          case first =>
            have H := HC7.out
            clear HC7
            have H' := Aside0.mk H
            clear H
            go_wp2
            repeat (go_quiet (fail); try go_wp2)
            go_loopg [6] k1 (fun kq v6 w' => ∃ (x6_2 : Int), v6 = .int .i64 x6_2 ∧ Aside0 (word_IsFactor.l1 kq a0 a1 t125 x6_2 x7_1 = some r) ∧ Aside0 (kq ≤ k1) ∧ Aside0 (Kd.R (Kd.int .i64) 3 w' w.heap.size (fun _ => True) v126 t125) ∧ Aside0 (Below w.heap.size w w'))
            case atStart => exact ⟨(x6_1), (by first | rfl | (simp; done) | (simp [*]; done)), H', ⟨Nat.le_refl _⟩, ⟨by (with_reducible repeat (first | apply Kd.R_alloc | apply Kd.R_drewN | apply Kd.R_drew)); exact HO_5.out⟩, ⟨by repeat (first | (with_reducible first | exact HB.out | apply below_alloc | apply pw_below_drewN | apply below_drew1) | exact HB.out)⟩⟩
            case round =>
              clear H'
              try clear c1
              try clear p2
              try clear c3
              try clear c3b0
              try clear c3b1
              try clear c6
              try clear c6b0
              try clear p2
              obtain ⟨x6_2, rfl, HA, HK2, HO_5, HB⟩ := hrel
              cases gk with
              | zero => exact absurd HA.out (by simp [word_IsFactor.l1])
              | succ k2 =>
                have H := HA.out
                clear HA
                simp only [word_IsFactor.l1] at H
                by_cases c8 : x6_2 > 0
                · rw [if_pos c8] at H
                  have c8b0 : decide (0 < x6_2) = true := decide_eq_true c8
                  clear c8
                  (first | rw [c8b0] | (simp only [i64_w, i32_w]; rw [c8b0]) | skip)
                  by_cases c9 : 0 ≤ x7_1
                  · rw [if_pos c9] at H
                    have c9b0 : decide (0 ≤ x7_1) = true := decide_eq_true c9
                    clear c9
                    by_cases c10 : x7_1 < (a1.size : Int)
                    · rw [if_pos c10] at H
                      have c10b0 : decide (x7_1 < (a1.size : Int)) = true := decide_eq_true c10
                      clear c10
                      by_cases c12 : 0 ≤ x6_2
                      · rw [if_pos c12] at H
                        have c12b0 : decide (0 ≤ x6_2) = true := decide_eq_true c12
                        clear c12
                        by_cases c13 : x6_2 < (a0.size : Int)
                        · rw [if_pos c13] at H
                          have c13b0 : decide (x6_2 < (a0.size : Int)) = true := decide_eq_true c13
                          clear c13
                          by_cases c15 : (bt a1 x7_1) = (bt a0 x6_2)
                          · rw [if_pos c15] at H
                            have c15b0 : ((bt a1 x7_1) == (bt a0 x6_2)) = true := beq_iff_eq.mpr c15
                            have c15b1 : ((bt a1 x7_1) != (bt a0 x6_2)) = false := bne_eq_false_iff_eq.mpr c15
                            clear c15
                            have H' := Aside0.mk H
                            clear H
                            have p11 : 0 ≤ (x7_1 : Int) := of_decide_eq_true (by first | (with_reducible assumption) | assumption)
                            have q11 : x7_1 < (a1.size : Int) := of_decide_eq_true (by first | (with_reducible assumption) | assumption)
                            have hx11 := bt_at a1 x7_1
                            replace p11 := eq_true p11
                            replace q11 := eq_true q11
                            have p14 : 0 ≤ (x6_2 : Int) := of_decide_eq_true (by first | (with_reducible assumption) | assumption)
                            have q14 : x6_2 < (a0.size : Int) := of_decide_eq_true (by first | (with_reducible assumption) | assumption)
                            have hx14 := bt_at a0 x6_2
                            replace p14 := eq_true p14
                            replace q14 := eq_true q14
                            go_wp2
                            repeat (go_quiet (fail); try go_wp2)
                            go_meet
                            case rel => exact ⟨_, (x6_2), (by first | rfl | (simp; done) | (simp [*]; done)), H', ⟨by have := HK1.out; have := HK2.out; first | omega | exact Nat.le_refl _⟩, ⟨by (with_reducible repeat (first | apply Kd.R_alloc | apply Kd.R_drewN | apply Kd.R_drew)); exact HO_5.out⟩, ⟨by repeat (first | (with_reducible first | exact HB.out | apply below_alloc | apply pw_below_drewN | apply below_drew1) | exact HB.out)⟩⟩
                          · rw [if_neg c15] at H
                            have c15b0 : ((bt a1 x7_1) == (bt a0 x6_2)) = false := beq_eq_false_iff_ne.mpr c15
                            have c15b1 : ((bt a1 x7_1) != (bt a0 x6_2)) = true := bne_iff_ne.mpr c15
                            by_cases c16 : x6_2 < (t125.length : Int)
                            · rw [if_pos c16] at H
                              have c16b0 : decide (x6_2 < (t125.length : Int)) = true := decide_eq_true c16
                              clear c16
                              have H' := Aside0.mk H
                              clear H
                              have p11 : 0 ≤ (x7_1 : Int) := of_decide_eq_true (by first | (with_reducible assumption) | assumption)
                              have q11 : x7_1 < (a1.size : Int) := of_decide_eq_true (by first | (with_reducible assumption) | assumption)
                              have hx11 := bt_at a1 x7_1
                              replace p11 := eq_true p11
                              replace q11 := eq_true q11
                              have p14 : 0 ≤ (x6_2 : Int) := of_decide_eq_true (by first | (with_reducible assumption) | assumption)
                              have q14 : x6_2 < (a0.size : Int) := of_decide_eq_true (by first | (with_reducible assumption) | assumption)
                              have hx14 := bt_at a0 x6_2
                              replace p14 := eq_true p14
                              replace q14 := eq_true q14
                              obtain ⟨Ao17, co17, eo17⟩ := Kd.R_slice HO_5.out
                              subst eo17
                              have p128 : 0 ≤ (x6_2 : Int) := of_decide_eq_true (by first | (with_reducible assumption) | assumption)
                              have q128 : x6_2 < (t125.length : Int) := of_decide_eq_true (by first | (with_reducible assumption) | assumption)
                              obtain ⟨ad128, e128, hx128_0⟩ := Kd.at_int (Kd.R_reads' HO_5.out).2.2 x6_2 p128 q128
                              cases e128
                              replace p128 := eq_true p128
                              replace q128 := eq_true q128
                              go_wp2
                              repeat (go_quiet (fail); try go_wp2)
                              go_roundg k2
                              case measure => have := HK1.out; have := HK2.out; omega
                              case rel => exact ⟨(rd t125 x6_2), (by first | rfl | (simp; done) | (simp [*]; done)), H', ⟨by have := HK1.out; have := HK2.out; omega⟩, ⟨by (with_reducible repeat (first | apply Kd.R_alloc | apply Kd.R_drewN | apply Kd.R_drew)); exact HO_5.out⟩, ⟨by repeat (first | (with_reducible first | exact HB.out | apply below_alloc | apply pw_below_drewN | apply below_drew1) | exact HB.out)⟩⟩
                            · rw [if_neg c16] at H
                              exact absurd H (by simp)
                        · rw [if_neg c13] at H
                          exact absurd H (by simp)
                      · rw [if_neg c12] at H
                        exact absurd H (by simp)
                    · rw [if_neg c10] at H
                      exact absurd H (by simp)
                  · rw [if_neg c9] at H
                    exact absurd H (by simp)
                · rw [if_neg c8] at H
                  have c8b0 : decide (0 < x6_2) = false := decide_eq_false c8
                  clear c8
                  (first | rw [c8b0] | (simp only [i64_w, i32_w]; rw [c8b0]) | skip)
                  have H' := Aside0.mk H
                  clear H
                  go_wp2
                  repeat (go_quiet (fail); try go_wp2)
                  go_meet
                  case rel => exact ⟨_, (x6_2), (by first | rfl | (simp; done) | (simp [*]; done)), H', ⟨by have := HK1.out; have := HK2.out; first | omega | exact Nat.le_refl _⟩, ⟨by (with_reducible repeat (first | apply Kd.R_alloc | apply Kd.R_drewN | apply Kd.R_drew)); exact HO_5.out⟩, ⟨by repeat (first | (with_reducible first | exact HB.out | apply below_alloc | apply pw_below_drewN | apply below_drew1) | exact HB.out)⟩⟩
          case rest =>
            clear HC7
            try clear c1
            try clear p1
            try clear q1
            try clear hx1
            try clear p2
            try clear c3
            try clear c3b0
            try clear c3b1
            try clear c6
            try clear c6b0
            try clear c8
            try clear c8b0
            try clear c9
            try clear c9b0
            try clear c10
            try clear c10b0
            try clear p11
            try clear q11
            try clear hx11
            try clear c12
            try clear c12b0
            try clear p12
            try clear q12
            try clear hx12
            try clear c13
            try clear c13b0
            try clear p14
            try clear q14
            try clear hx14
            try clear c15
            try clear c15b0
            try clear c15b1
            try clear c16
            try clear c16b0
            try clear hx128_0
            try clear p11
            try clear p128
            try clear p14
            try clear p2
            try clear q11
            try clear q128
            try clear q14
            obtain ⟨kq, x6_6, rfl, HA, HJ6, HO_5, HB⟩ := hcut
            cases kq with
            | zero => exact absurd HA.out (by simp [word_IsFactor.j2])
            | succ kj6 =>
              have H := HA.out
              clear HA
              simp only [word_IsFactor.j2] at H
              by_cases c18 : 0 ≤ x7_1
              · rw [if_pos c18] at H
                have c18b0 : decide (0 ≤ x7_1) = true := decide_eq_true c18
                clear c18
                by_cases c19 : x7_1 < (a1.size : Int)
                · rw [if_pos c19] at H
                  have c19b0 : decide (x7_1 < (a1.size : Int)) = true := decide_eq_true c19
                  clear c19
                  by_cases c21 : 0 ≤ x6_6
                  · rw [if_pos c21] at H
                    have c21b0 : decide (0 ≤ x6_6) = true := decide_eq_true c21
                    clear c21
                    by_cases c22 : x6_6 < (a0.size : Int)
                    · rw [if_pos c22] at H
                      have c22b0 : decide (x6_6 < (a0.size : Int)) = true := decide_eq_true c22
                      clear c22
                      by_cases c24 : (bt a1 x7_1) = (bt a0 x6_6)
                      · rw [if_pos c24] at H
                        have c24b0 : ((bt a1 x7_1) == (bt a0 x6_6)) = true := beq_iff_eq.mpr c24
                        have c24b1 : ((bt a1 x7_1) != (bt a0 x6_6)) = false := bne_eq_false_iff_eq.mpr c24
                        clear c24
                        by_cases c25 : (wrap64 (x6_6 + 1)) = (a0.size : Int)
                        · rw [if_pos c25] at H
                          have c25b0 : ((wrap64 (x6_6 + 1)) == (a0.size : Int)) = true := beq_iff_eq.mpr c25
                          have c25b1 : ((wrap64 (x6_6 + 1)) != (a0.size : Int)) = false := bne_eq_false_iff_eq.mpr c25
                          clear c25
                          obtain rfl := Option.some.inj H
                          have p20 : 0 ≤ (x7_1 : Int) := of_decide_eq_true (by first | (with_reducible assumption) | assumption)
                          have q20 : x7_1 < (a1.size : Int) := of_decide_eq_true (by first | (with_reducible assumption) | assumption)
                          have hx20 := bt_at a1 x7_1
                          replace p20 := eq_true p20
                          replace q20 := eq_true q20
                          have p23 : 0 ≤ (x6_6 : Int) := of_decide_eq_true (by first | (with_reducible assumption) | assumption)
                          have q23 : x6_6 < (a0.size : Int) := of_decide_eq_true (by first | (with_reducible assumption) | assumption)
                          have hx23 := bt_at a0 x6_6
                          replace p23 := eq_true p23
                          replace q23 := eq_true q23
                          go_wp2
                          repeat (go_quiet (fail); try go_wp2)
                          go_ret
                          exact ⟨by first | rfl | (simp [errW_none, errW_some] <;> rfl) | (simp [*, errW_none, errW_some] <;> rfl), by repeat (first | (with_reducible first | exact HB.out | apply below_alloc | apply pw_below_drewN | apply below_drew1) | exact HB.out)⟩
                        · rw [if_neg c25] at H
                          have c25b0 : ((wrap64 (x6_6 + 1)) == (a0.size : Int)) = false := beq_eq_false_iff_ne.mpr c25
                          have c25b1 : ((wrap64 (x6_6 + 1)) != (a0.size : Int)) = true := bne_iff_ne.mpr c25
                          have H' := Aside0.mk H
                          clear H
                          have p20 : 0 ≤ (x7_1 : Int) := of_decide_eq_true (by first | (with_reducible assumption) | assumption)
                          have q20 : x7_1 < (a1.size : Int) := of_decide_eq_true (by first | (with_reducible assumption) | assumption)
                          have hx20 := bt_at a1 x7_1
                          replace p20 := eq_true p20
                          replace q20 := eq_true q20
                          have p23 : 0 ≤ (x6_6 : Int) := of_decide_eq_true (by first | (with_reducible assumption) | assumption)
                          have q23 : x6_6 < (a0.size : Int) := of_decide_eq_true (by first | (with_reducible assumption) | assumption)
                          have hx23 := bt_at a0 x6_6
                          replace p23 := eq_true p23
                          replace q23 := eq_true q23
                          go_wp2
                          repeat (go_quiet (fail); try go_wp2)
                          go_roundg kj6
                          case measure => have := HK1.out; have := HJ6.out; omega
                          case rel => exact ⟨(wrap64 (x6_6 + 1)), (wrap64 (x7_1 + 1)), (by first | rfl | (simp; done) | (simp [*]; done)), (by first | rfl | (simp; done) | (simp [*]; done)), H', ⟨by have := HK1.out; have := HJ6.out; omega⟩, ⟨by (with_reducible repeat (first | apply Kd.R_alloc | apply Kd.R_drewN | apply Kd.R_drew)); exact HO_5.out⟩, ⟨by repeat (first | (with_reducible first | exact HB.out | apply below_alloc | apply pw_below_drewN | apply below_drew1) | exact HB.out)⟩⟩
                      · rw [if_neg c24] at H
                        have c24b0 : ((bt a1 x7_1) == (bt a0 x6_6)) = false := beq_eq_false_iff_ne.mpr c24
                        have c24b1 : ((bt a1 x7_1) != (bt a0 x6_6)) = true := bne_iff_ne.mpr c24
                        by_cases c26 : x6_6 = (a0.size : Int)
                        · rw [if_pos c26] at H
                          have c26b0 : (x6_6 == (a0.size : Int)) = true := beq_iff_eq.mpr c26
                          have c26b1 : (x6_6 != (a0.size : Int)) = false := bne_eq_false_iff_eq.mpr c26
                          clear c26
                          obtain rfl := Option.some.inj H
                          have p20 : 0 ≤ (x7_1 : Int) := of_decide_eq_true (by first | (with_reducible assumption) | assumption)
                          have q20 : x7_1 < (a1.size : Int) := of_decide_eq_true (by first | (with_reducible assumption) | assumption)
                          have hx20 := bt_at a1 x7_1
                          replace p20 := eq_true p20
                          replace q20 := eq_true q20
                          have p23 : 0 ≤ (x6_6 : Int) := of_decide_eq_true (by first | (with_reducible assumption) | assumption)
                          have q23 : x6_6 < (a0.size : Int) := of_decide_eq_true (by first | (with_reducible assumption) | assumption)
                          have hx23 := bt_at a0 x6_6
                          replace p23 := eq_true p23
                          replace q23 := eq_true q23
                          go_wp2
                          repeat (go_quiet (fail); try go_wp2)
                          go_ret
                          exact ⟨by first | rfl | (simp [errW_none, errW_some] <;> rfl) | (simp [*, errW_none, errW_some] <;> rfl), by repeat (first | (with_reducible first | exact HB.out | apply below_alloc | apply pw_below_drewN | apply below_drew1) | exact HB.out)⟩
                        · rw [if_neg c26] at H
                          have c26b0 : (x6_6 == (a0.size : Int)) = false := beq_eq_false_iff_ne.mpr c26
                          have c26b1 : (x6_6 != (a0.size : Int)) = true := bne_iff_ne.mpr c26
                          have H' := Aside0.mk H
                          clear H
                          have p20 : 0 ≤ (x7_1 : Int) := of_decide_eq_true (by first | (with_reducible assumption) | assumption)
                          have q20 : x7_1 < (a1.size : Int) := of_decide_eq_true (by first | (with_reducible assumption) | assumption)
                          have hx20 := bt_at a1 x7_1
                          replace p20 := eq_true p20
                          replace q20 := eq_true q20
                          have p23 : 0 ≤ (x6_6 : Int) := of_decide_eq_true (by first | (with_reducible assumption) | assumption)
                          have q23 : x6_6 < (a0.size : Int) := of_decide_eq_true (by first | (with_reducible assumption) | assumption)
                          have hx23 := bt_at a0 x6_6
                          replace p23 := eq_true p23
                          replace q23 := eq_true q23
                          go_wp2
                          repeat (go_quiet (fail); try go_wp2)
                          go_roundg kj6
                          case measure => have := HK1.out; have := HJ6.out; omega
                          case rel => exact ⟨(x6_6), (wrap64 (x7_1 + 1)), (by first | rfl | (simp; done) | (simp [*]; done)), (by first | rfl | (simp; done) | (simp [*]; done)), H', ⟨by have := HK1.out; have := HJ6.out; omega⟩, ⟨by (with_reducible repeat (first | apply Kd.R_alloc | apply Kd.R_drewN | apply Kd.R_drew)); exact HO_5.out⟩, ⟨by repeat (first | (with_reducible first | exact HB.out | apply below_alloc | apply pw_below_drewN | apply below_drew1) | exact HB.out)⟩⟩
                    · rw [if_neg c22] at H
                      exact absurd H (by simp)
                  · rw [if_neg c21] at H
                    exact absurd H (by simp)
                · rw [if_neg c19] at H
                  exact absurd H (by simp)
              · rw [if_neg c18] at H
                exact absurd H (by simp)
        · rw [if_neg c6] at H
          have c6b0 : decide (x7_1 < (a1.size : Int)) = false := decide_eq_false c6
          clear c6
          obtain rfl := Option.some.inj H
          go_wp2
          repeat (go_quiet (fail); try go_wp2)
          go_ret
          exact ⟨by first | rfl | (simp [errW_none, errW_some] <;> rfl) | (simp [*, errW_none, errW_some] <;> rfl), by repeat (first | (with_reducible first | exact HB.out | apply below_alloc | apply pw_below_drewN | apply below_drew1) | exact HB.out)⟩

/-! ### word_Conjugate: function 20 -/
def word_Conjugate.f (k : Nat) (a0 : ByteArray) (a1 : ByteArray) : Option (Bool) := if (a0.size : Int) = (a1.size : Int) then (if a0.size + a0.size ≤ 9223372036854775807 then ((word_IsFactor.f k a1 (a0 ++ a0)).bind fun t129 => (some t129)) else (none)) else (some false)
theorem word_Conjugate.mono : ∀ a0 a1 k, LeO (word_Conjugate.f k a0 a1) (word_Conjugate.f (k + 1) a0 a1) := by
  intro a0 a1 k
  unfold word_Conjugate.f
  repeat' first
      | (with_reducible exact word_IsFactor.mono _ _ _)
      | (with_reducible exact LeO.refl _)
      | (with_reducible exact LeO.none _)
      | (with_reducible refine LeO.ite ?_ ?_)
      | (with_reducible refine LeO.bind ?_ (fun _ => ?_))
      | exact word_IsFactor.mono _ _ _
      | exact LeO.none _
      | refine LeO.ite ?_ ?_
      | refine LeO.bind ?_ (fun _ => ?_)
set_option maxHeartbeats 8000000 in
set_option maxRecDepth 100000 in
theorem word_Conjugate.calls (k : Nat) (a0 : ByteArray) (a1 : ByteArray) (r : Bool) (w : World) (h : word_Conjugate.f k a0 a1 = some r) :
    Calls Try.prog 20 #[.string a0, .string a1] w fun e w' => e = .returned (.bool r) ∧ Below w.heap.size w w' := by
  have HB := Aside0.mk (Below.refl w.heap.size w)
  have H : (if (a0.size : Int) = (a1.size : Int) then (if a0.size + a0.size ≤ 9223372036854775807 then ((word_IsFactor.f k a1 (a0 ++ a0)).bind fun t129 => (some t129)) else (none)) else (some false)) = some r := h
  clear h
  by_cases c3 : (a0.size : Int) = (a1.size : Int)
  · rw [if_pos c3] at H
    have c3b0 : ((a0.size : Int) == (a1.size : Int)) = true := beq_iff_eq.mpr c3
    have c3b1 : ((a0.size : Int) != (a1.size : Int)) = false := bne_eq_false_iff_eq.mpr c3
    have c3b2 : (a0.size == a1.size) = true := by first | simpa using c3 | (simp at c3 ⊢; omega)
    clear c3
    by_cases c4 : a0.size + a0.size ≤ 9223372036854775807
    · rw [if_pos c4] at H
      have c4b0 := eq_true c4
      have c4b1 : decide (a0.size + a0.size ≤ 9223372036854775807) = true := decide_eq_true c4
      try have c4b2 : (9223372036854775807 < a0.size + a0.size) = False := eq_false (Nat.not_lt.2 c4)
      replace H := Option.bind_eq_some_iff.mp H
      obtain ⟨t129, A50, H⟩ := H
      replace H : (some t129) = some r := H
      have A5 := Aside0.mk A50
      clear A50
      obtain rfl := Option.some.inj H
      go_enter Try.func20, Try.ntmps20
      go_wp2_with (first | (go_at_call 15; (with_reducible refine (word_IsFactor.calls k a1 (a0 ++ a0) t129 _ A5.out).mono ?_); rintro e w6 ⟨rfl, hb⟩; have n0_ := Aside0.mk (below_step (by repeat (first | (with_reducible first | exact HB.out | apply below_alloc | apply pw_below_drewN | apply below_drew1) | exact HB.out)) hb); clear HB; have HB := n0_; clear n0_; (try clear hb); (try clear hb2); (try clear hk); (try clear hi)))
      go_ret
      exact ⟨by first | rfl | (simp [errW_none, errW_some] <;> rfl) | (simp [*, errW_none, errW_some] <;> rfl), by repeat (first | (with_reducible first | exact HB.out | apply below_alloc | apply pw_below_drewN | apply below_drew1) | exact HB.out)⟩
    · rw [if_neg c4] at H
      exact absurd H (by simp)
  · rw [if_neg c3] at H
    have c3b0 : ((a0.size : Int) == (a1.size : Int)) = false := beq_eq_false_iff_ne.mpr c3
    have c3b1 : ((a0.size : Int) != (a1.size : Int)) = true := bne_iff_ne.mpr c3
    have c3b2 : (a0.size == a1.size) = false := by first | simpa using c3 | (simp at c3 ⊢; omega)
    obtain rfl := Option.some.inj H
    go_enter Try.func20, Try.ntmps20
    go_wp2
    go_ret
    exact ⟨by first | rfl | (simp [errW_none, errW_some] <;> rfl) | (simp [*, errW_none, errW_some] <;> rfl), by repeat (first | (with_reducible first | exact HB.out | apply below_alloc | apply pw_below_drewN | apply below_drew1) | exact HB.out)⟩

/-! ### semigroupref01_Conjugate: function 21 -/
def semigroupref01_Conjugate.l0 : Nat → ByteArray → ByteArray → Int → Option (Bool)
  | 0, _, _, _ => none
  | k + 1, x0, x1, x5 => if x5 ≤ (x0.size : Int) then (if 0 ≤ x5 then (if (x0.extract (x5 : Int).toNat x0.size).size + (x0.extract 0 (x5 : Int).toNat).size ≤ 9223372036854775807 then (if ((x0.extract (x5 : Int).toNat x0.size) ++ (x0.extract 0 (x5 : Int).toNat)).toList = x1.toList then (some true) else (semigroupref01_Conjugate.l0 k x0 x1 (wrap64 (x5 + 1)))) else (none)) else (none)) else (some false)
def semigroupref01_Conjugate.f (k : Nat) (a0 : ByteArray) (a1 : ByteArray) : Option (Bool) := semigroupref01_Conjugate.l0 k a0 a1 0
theorem semigroupref01_Conjugate.mono_l : ∀ k, (∀ y0 y1 y2, LeO (semigroupref01_Conjugate.l0 k y0 y1 y2) (semigroupref01_Conjugate.l0 (k + 1) y0 y1 y2))
  | 0 => fun _ _ _ r h => by simp [semigroupref01_Conjugate.l0] at h
  | k + 1 => by
    have ih0 := semigroupref01_Conjugate.mono_l k
    · intro y0 y1 y2
      unfold semigroupref01_Conjugate.l0
      repeat' first
      | (with_reducible exact ih0 _ _ _)
      | (with_reducible exact LeO.refl _)
      | (with_reducible exact LeO.none _)
      | (with_reducible refine LeO.ite ?_ ?_)
      | (with_reducible refine LeO.bind ?_ (fun _ => ?_))
      | exact ih0 _ _ _
      | exact LeO.none _
      | refine LeO.ite ?_ ?_
      | refine LeO.bind ?_ (fun _ => ?_)
theorem semigroupref01_Conjugate.mono : ∀ a0 a1 k, LeO (semigroupref01_Conjugate.f k a0 a1) (semigroupref01_Conjugate.f (k + 1) a0 a1) := by
  intro a0 a1 k
  have ih0 := semigroupref01_Conjugate.mono_l k
  unfold semigroupref01_Conjugate.f
  repeat' first
      | (with_reducible exact ih0 _ _ _)
      | (with_reducible exact LeO.refl _)
      | (with_reducible exact LeO.none _)
      | (with_reducible refine LeO.ite ?_ ?_)
      | (with_reducible refine LeO.bind ?_ (fun _ => ?_))
      | exact ih0 _ _ _
      | exact LeO.none _
      | refine LeO.ite ?_ ?_
      | refine LeO.bind ?_ (fun _ => ?_)
set_option maxHeartbeats 8000000 in
set_option maxRecDepth 100000 in
theorem semigroupref01_Conjugate.calls (k : Nat) (a0 : ByteArray) (a1 : ByteArray) (r : Bool) (w : World) (h : semigroupref01_Conjugate.f k a0 a1 = some r) :
    Calls Try.prog 21 #[.string a0, .string a1] w fun e w' => e = .returned (.bool r) ∧ Drawn0 w w' := by
  have H : (semigroupref01_Conjugate.l0 k a0 a1 0) = some r := h
  clear h
  have H' := Aside0.mk H
  clear H
  go_enter Try.func21, Try.ntmps21
  go_wp2
  repeat (go_quiet (fail); try go_wp2)
  go_loopg [5] k (fun kq v5 w' => ∃ (x5_1 : Int), v5 = .int .i64 x5_1 ∧ Aside0 (semigroupref01_Conjugate.l0 kq a0 a1 x5_1 = some r) ∧ Aside0 (kq ≤ k) ∧ Drawn0 w w')
  case atStart => exact ⟨(0), (by first | rfl | (simp; done) | (simp [*]; done)), H', ⟨Nat.le_refl _⟩, by repeat (first | exact Drawn0.refl _ | apply Drawn0.step)⟩
  case round =>
    clear H'
    try clear c2
    try clear p2
    obtain ⟨x5_1, rfl, HA, HK1, ⟨m1, rfl⟩⟩ := hrel
    cases gk with
    | zero => exact absurd HA.out (by simp [semigroupref01_Conjugate.l0])
    | succ k1 =>
      have H := HA.out
      clear HA
      simp only [semigroupref01_Conjugate.l0] at H
      by_cases c3 : x5_1 ≤ (a0.size : Int)
      · rw [if_pos c3] at H
        have c3b0 : decide (x5_1 ≤ (a0.size : Int)) = true := decide_eq_true c3
        clear c3
        by_cases c4 : 0 ≤ x5_1
        · rw [if_pos c4] at H
          have c4b0 := eq_true c4
          have c4b1 : decide (0 ≤ x5_1) = true := decide_eq_true c4
          clear c4
          have c5b0 := eq_true (of_decide_eq_true (by first | (with_reducible assumption) | assumption) : x5_1 ≤ (a0.size : Int))
          have c6b0 := eq_true (of_decide_eq_true (by first | (with_reducible assumption) | assumption) : 0 ≤ x5_1)
          have c7b0 := eq_true (of_decide_eq_true (by first | (with_reducible assumption) | assumption) : x5_1 ≤ (a0.size : Int))
          by_cases c8 : (a0.extract (x5_1 : Int).toNat a0.size).size + (a0.extract 0 (x5_1 : Int).toNat).size ≤ 9223372036854775807
          · rw [if_pos c8] at H
            have c8b0 := eq_true c8
            have c8b1 : decide ((a0.extract (x5_1 : Int).toNat a0.size).size + (a0.extract 0 (x5_1 : Int).toNat).size ≤ 9223372036854775807) = true := decide_eq_true c8
            try have c8b2 : (9223372036854775807 < (a0.extract (x5_1 : Int).toNat a0.size).size + (a0.extract 0 (x5_1 : Int).toNat).size) = False := eq_false (Nat.not_lt.2 c8)
            by_cases c9 : ((a0.extract (x5_1 : Int).toNat a0.size) ++ (a0.extract 0 (x5_1 : Int).toNat)).toList = a1.toList
            · rw [if_pos c9] at H
              have c9b0 : (((a0.extract (x5_1 : Int).toNat a0.size) ++ (a0.extract 0 (x5_1 : Int).toNat)).toList == a1.toList) = true := beq_iff_eq.mpr c9
              have c9b1 : (((a0.extract (x5_1 : Int).toNat a0.size) ++ (a0.extract 0 (x5_1 : Int).toNat)).toList != a1.toList) = false := bne_eq_false_iff_eq.mpr c9
              clear c9
              obtain rfl := Option.some.inj H
              go_wp2
              repeat (go_quiet (fail); try go_wp2)
              go_ret
              exact ⟨by first | rfl | (simp; done) | (simp [*]; done), by repeat (first | exact Drawn0.refl _ | apply Drawn0.step)⟩
            · rw [if_neg c9] at H
              have c9b0 : (((a0.extract (x5_1 : Int).toNat a0.size) ++ (a0.extract 0 (x5_1 : Int).toNat)).toList == a1.toList) = false := beq_eq_false_iff_ne.mpr c9
              have c9b1 : (((a0.extract (x5_1 : Int).toNat a0.size) ++ (a0.extract 0 (x5_1 : Int).toNat)).toList != a1.toList) = true := bne_iff_ne.mpr c9
              have H' := Aside0.mk H
              clear H
              go_wp2
              repeat (go_quiet (fail); try go_wp2)
              go_roundg k1
              case measure => have := HK1.out; omega
              case rel => exact ⟨(wrap64 (x5_1 + 1)), (by first | rfl | (simp; done) | (simp [*]; done)), H', ⟨by have := HK1.out; omega⟩, by repeat (first | exact Drawn0.refl _ | apply Drawn0.step)⟩
          · rw [if_neg c8] at H
            exact absurd H (by simp)
        · rw [if_neg c4] at H
          exact absurd H (by simp)
      · rw [if_neg c3] at H
        have c3b0 : decide (x5_1 ≤ (a0.size : Int)) = false := decide_eq_false c3
        clear c3
        obtain rfl := Option.some.inj H
        go_wp2
        repeat (go_quiet (fail); try go_wp2)
        go_ret
        exact ⟨by first | rfl | (simp; done) | (simp [*]; done), by repeat (first | exact Drawn0.refl _ | apply Drawn0.step)⟩

/-! ### semigrouplaw01_WordConjugates: function 6 -/
def semigrouplaw01_WordConjugates.j0 : Nat → ByteArray → ByteArray → Bool → Option (Bool)
  | 0, _, _, _ => none
  | k + 1, x2, x3, x36 => if x36 = true then (some false) else (if x2.size + x3.size ≤ 9223372036854775807 then ((word_Root.f k (x2 ++ x3)).bind fun bt138 => (if x3.size + x2.size ≤ 9223372036854775807 then ((word_Root.f k (x3 ++ x2)).bind fun bt140 => ((word_Conjugate.f k (x2 ++ x3) (x3 ++ x2)).bind fun t142 => (if t142 = true then (if (bt138.1.size : Int) = (bt140.1.size : Int) then (if bt138.2 = bt140.2 then ((semigrouplaw01_awake.f k).bind fun t143 => (some t143)) else (some false)) else (some false)) else (some false)))) else (none))) else (none))
def semigrouplaw01_WordConjugates.f (k : Nat) (a0 : ByteArray) (a1 : ByteArray) (a2 : ByteArray) (a3 : ByteArray) : Option (Bool) := (semigrouplaw01_cut.f a0 100).bind fun t130 => ((semigrouplaw01_cut.f a1 100).bind fun t131 => ((semigrouplaw01_cut.f a2 50).bind fun t132 => ((semigrouplaw01_cut.f a3 50).bind fun t133 => ((word_Conjugate.f k t130 t131).bind fun t134 => ((semigroupref01_Conjugate.f k t130 t131).bind fun t135 => (if (t134 != t135) = true then (semigrouplaw01_WordConjugates.j0 k t132 t133 true) else ((word_Conjugate.f k t131 t130).bind fun t136 => ((word_Conjugate.f k t130 t131).bind fun t137 => (semigrouplaw01_WordConjugates.j0 k t132 t133 (t136 != t137))))))))))
theorem semigrouplaw01_WordConjugates.mono_l : ∀ k, (∀ y0 y1 y2, LeO (semigrouplaw01_WordConjugates.j0 k y0 y1 y2) (semigrouplaw01_WordConjugates.j0 (k + 1) y0 y1 y2))
  | 0 => fun _ _ _ r h => by simp [semigrouplaw01_WordConjugates.j0] at h
  | k + 1 => by
    have ih0 := semigrouplaw01_WordConjugates.mono_l k
    · intro y0 y1 y2
      unfold semigrouplaw01_WordConjugates.j0
      repeat' first
      | (with_reducible exact ih0 _ _ _)
      | (with_reducible exact semigrouplaw01_awake.mono _)
      | (with_reducible exact semigroupref01_Conjugate.mono _ _ _)
      | (with_reducible exact word_Conjugate.mono _ _ _)
      | (with_reducible exact word_Root.mono _ _)
      | (with_reducible exact LeO.refl _)
      | (with_reducible exact LeO.none _)
      | (with_reducible refine LeO.ite ?_ ?_)
      | (with_reducible refine LeO.bind ?_ (fun _ => ?_))
      | exact ih0 _ _ _
      | exact semigrouplaw01_awake.mono _
      | exact semigroupref01_Conjugate.mono _ _ _
      | exact word_Conjugate.mono _ _ _
      | exact word_Root.mono _ _
      | exact LeO.none _
      | refine LeO.ite ?_ ?_
      | refine LeO.bind ?_ (fun _ => ?_)
theorem semigrouplaw01_WordConjugates.mono : ∀ a0 a1 a2 a3 k, LeO (semigrouplaw01_WordConjugates.f k a0 a1 a2 a3) (semigrouplaw01_WordConjugates.f (k + 1) a0 a1 a2 a3) := by
  intro a0 a1 a2 a3 k
  have ih0 := semigrouplaw01_WordConjugates.mono_l k
  unfold semigrouplaw01_WordConjugates.f
  repeat' first
      | (with_reducible exact ih0 _ _ _)
      | (with_reducible exact semigrouplaw01_awake.mono _)
      | (with_reducible exact semigroupref01_Conjugate.mono _ _ _)
      | (with_reducible exact word_Conjugate.mono _ _ _)
      | (with_reducible exact word_Root.mono _ _)
      | (with_reducible exact LeO.refl _)
      | (with_reducible exact LeO.none _)
      | (with_reducible refine LeO.ite ?_ ?_)
      | (with_reducible refine LeO.bind ?_ (fun _ => ?_))
      | exact ih0 _ _ _
      | exact semigrouplaw01_awake.mono _
      | exact semigroupref01_Conjugate.mono _ _ _
      | exact word_Conjugate.mono _ _ _
      | exact word_Root.mono _ _
      | exact LeO.none _
      | refine LeO.ite ?_ ?_
      | refine LeO.bind ?_ (fun _ => ?_)
set_option maxHeartbeats 8000000 in
set_option maxRecDepth 100000 in
theorem semigrouplaw01_WordConjugates.calls (k : Nat) (a0 : ByteArray) (a1 : ByteArray) (a2 : ByteArray) (a3 : ByteArray) (r : Bool) (w : World) (h : semigrouplaw01_WordConjugates.f k a0 a1 a2 a3 = some r) :
    Calls Try.prog 6 #[.string a0, .string a1, .string a2, .string a3] w fun e w' => e = .returned (.bool r) ∧ Below w.heap.size w w' := by
  have HB := Aside0.mk (Below.refl w.heap.size w)
  have H : ((semigrouplaw01_cut.f a0 100).bind fun t130 => ((semigrouplaw01_cut.f a1 100).bind fun t131 => ((semigrouplaw01_cut.f a2 50).bind fun t132 => ((semigrouplaw01_cut.f a3 50).bind fun t133 => ((word_Conjugate.f k t130 t131).bind fun t134 => ((semigroupref01_Conjugate.f k t130 t131).bind fun t135 => (if (t134 != t135) = true then (semigrouplaw01_WordConjugates.j0 k t132 t133 true) else ((word_Conjugate.f k t131 t130).bind fun t136 => ((word_Conjugate.f k t130 t131).bind fun t137 => (semigrouplaw01_WordConjugates.j0 k t132 t133 (t136 != t137))))))))))) = some r := h
  clear h
  replace H := Option.bind_eq_some_iff.mp H
  obtain ⟨t130, A50, H⟩ := H
  replace H : ((semigrouplaw01_cut.f a1 100).bind fun t131 => ((semigrouplaw01_cut.f a2 50).bind fun t132 => ((semigrouplaw01_cut.f a3 50).bind fun t133 => ((word_Conjugate.f k t130 t131).bind fun t134 => ((semigroupref01_Conjugate.f k t130 t131).bind fun t135 => (if (t134 != t135) = true then (semigrouplaw01_WordConjugates.j0 k t132 t133 true) else ((word_Conjugate.f k t131 t130).bind fun t136 => ((word_Conjugate.f k t130 t131).bind fun t137 => (semigrouplaw01_WordConjugates.j0 k t132 t133 (t136 != t137)))))))))) = some r := H
  have A5 := Aside0.mk A50
  clear A50
  replace H := Option.bind_eq_some_iff.mp H
  obtain ⟨t131, A60, H⟩ := H
  replace H : ((semigrouplaw01_cut.f a2 50).bind fun t132 => ((semigrouplaw01_cut.f a3 50).bind fun t133 => ((word_Conjugate.f k t130 t131).bind fun t134 => ((semigroupref01_Conjugate.f k t130 t131).bind fun t135 => (if (t134 != t135) = true then (semigrouplaw01_WordConjugates.j0 k t132 t133 true) else ((word_Conjugate.f k t131 t130).bind fun t136 => ((word_Conjugate.f k t130 t131).bind fun t137 => (semigrouplaw01_WordConjugates.j0 k t132 t133 (t136 != t137))))))))) = some r := H
  have A6 := Aside0.mk A60
  clear A60
  replace H := Option.bind_eq_some_iff.mp H
  obtain ⟨t132, A70, H⟩ := H
  replace H : ((semigrouplaw01_cut.f a3 50).bind fun t133 => ((word_Conjugate.f k t130 t131).bind fun t134 => ((semigroupref01_Conjugate.f k t130 t131).bind fun t135 => (if (t134 != t135) = true then (semigrouplaw01_WordConjugates.j0 k t132 t133 true) else ((word_Conjugate.f k t131 t130).bind fun t136 => ((word_Conjugate.f k t130 t131).bind fun t137 => (semigrouplaw01_WordConjugates.j0 k t132 t133 (t136 != t137)))))))) = some r := H
  have A7 := Aside0.mk A70
  clear A70
  replace H := Option.bind_eq_some_iff.mp H
  obtain ⟨t133, A80, H⟩ := H
  replace H : ((word_Conjugate.f k t130 t131).bind fun t134 => ((semigroupref01_Conjugate.f k t130 t131).bind fun t135 => (if (t134 != t135) = true then (semigrouplaw01_WordConjugates.j0 k t132 t133 true) else ((word_Conjugate.f k t131 t130).bind fun t136 => ((word_Conjugate.f k t130 t131).bind fun t137 => (semigrouplaw01_WordConjugates.j0 k t132 t133 (t136 != t137))))))) = some r := H
  have A8 := Aside0.mk A80
  clear A80
  have HC9 := Aside0.mk H
  clear H
  go_enter Try.func6, Try.ntmps6
  go_upto_region 2 with (first | ((with_reducible refine gate_callee (f := 10) rfl ?_); refine goesL_ (some 14) rfl rfl Try.func10 (by kernel_rfl) rfl #[.string a0, .int .i64 100] rfl (by (try simp only [List.map_toArray, List.map_cons, List.map_nil]); first | done | rfl | (simp only [List.length_drop, List.length_take]; rfl)) ?_; (with_reducible refine (semigrouplaw01_cut.calls a0 100 t130 _ A5.out).mono ?_); rintro e w10 ⟨rfl, hb⟩; refine ⟨_, rfl, ?_⟩; have n0_ := Aside0.mk (below_step (by repeat (first | (with_reducible first | exact HB.out | apply below_alloc | apply pw_below_drewN | apply below_drew1) | exact HB.out)) hb); clear HB; have HB := n0_; clear n0_; (try clear hb); (try clear hb2); (try clear hk); (try clear hi)) | ((with_reducible refine gate_callee (f := 10) rfl ?_); refine goesL_ (some 16) rfl rfl Try.func10 (by kernel_rfl) rfl #[.string a1, .int .i64 100] rfl (by (try simp only [List.map_toArray, List.map_cons, List.map_nil]); first | done | rfl | (simp only [List.length_drop, List.length_take]; rfl)) ?_; (with_reducible refine (semigrouplaw01_cut.calls a1 100 t131 _ A6.out).mono ?_); rintro e w11 ⟨rfl, hb⟩; refine ⟨_, rfl, ?_⟩; have n0_ := Aside0.mk (below_step (by repeat (first | (with_reducible first | exact HB.out | apply below_alloc | apply pw_below_drewN | apply below_drew1) | exact HB.out)) hb); clear HB; have HB := n0_; clear n0_; (try clear hb); (try clear hb2); (try clear hk); (try clear hi)) | ((with_reducible refine gate_callee (f := 10) rfl ?_); refine goesL_ (some 18) rfl rfl Try.func10 (by kernel_rfl) rfl #[.string a2, .int .i64 50] rfl (by (try simp only [List.map_toArray, List.map_cons, List.map_nil]); first | done | rfl | (simp only [List.length_drop, List.length_take]; rfl)) ?_; (with_reducible refine (semigrouplaw01_cut.calls a2 50 t132 _ A7.out).mono ?_); rintro e w12 ⟨rfl, hb⟩; refine ⟨_, rfl, ?_⟩; have n0_ := Aside0.mk (below_step (by repeat (first | (with_reducible first | exact HB.out | apply below_alloc | apply pw_below_drewN | apply below_drew1) | exact HB.out)) hb); clear HB; have HB := n0_; clear n0_; (try clear hb); (try clear hb2); (try clear hk); (try clear hi)) | ((with_reducible refine gate_callee (f := 10) rfl ?_); refine goesL_ (some 20) rfl rfl Try.func10 (by kernel_rfl) rfl #[.string a3, .int .i64 50] rfl (by (try simp only [List.map_toArray, List.map_cons, List.map_nil]); first | done | rfl | (simp only [List.length_drop, List.length_take]; rfl)) ?_; (with_reducible refine (semigrouplaw01_cut.calls a3 50 t133 _ A8.out).mono ?_); rintro e w13 ⟨rfl, hb⟩; refine ⟨_, rfl, ?_⟩; have n0_ := Aside0.mk (below_step (by repeat (first | (with_reducible first | exact HB.out | apply below_alloc | apply pw_below_drewN | apply below_drew1) | exact HB.out)) hb); clear HB; have HB := n0_; clear n0_; (try clear hb); (try clear hb2); (try clear hk); (try clear hi)))
  (try simp only [Act.put, List.setIfInBounds_toArray, List.set_cons_zero, List.set_cons_succ])
  go_cut [36] (fun v36 wc => ∃ (kq : Nat) (x36_8 : Bool), v36 = .bool x36_8 ∧ Aside0 (semigrouplaw01_WordConjugates.j0 kq t132 t133 x36_8 = some r) ∧ Aside0 (kq ≤ k) ∧ Aside0 (Below w.heap.size w wc))
  case first =>
    have H := HC9.out
    clear HC9
    replace H := Option.bind_eq_some_iff.mp H
    obtain ⟨t134, A140, H⟩ := H
    replace H : ((semigroupref01_Conjugate.f k t130 t131).bind fun t135 => (if (t134 != t135) = true then (semigrouplaw01_WordConjugates.j0 k t132 t133 true) else ((word_Conjugate.f k t131 t130).bind fun t136 => ((word_Conjugate.f k t130 t131).bind fun t137 => (semigrouplaw01_WordConjugates.j0 k t132 t133 (t136 != t137)))))) = some r := H
    have A14 := Aside0.mk A140
    clear A140
    replace H := Option.bind_eq_some_iff.mp H
    obtain ⟨t135, A150, H⟩ := H
    replace H : (if (t134 != t135) = true then (semigrouplaw01_WordConjugates.j0 k t132 t133 true) else ((word_Conjugate.f k t131 t130).bind fun t136 => ((word_Conjugate.f k t130 t131).bind fun t137 => (semigrouplaw01_WordConjugates.j0 k t132 t133 (t136 != t137))))) = some r := H
    have A15 := Aside0.mk A150
    clear A150
    by_cases c16 : (t134 != t135) = true
    · rw [if_pos c16] at H
      have c16b0 : (t134 != t135) = true := c16
      (try (have c16b1 : decide (t134 = t135) = false := by simpa using c16))
      (try (have c16b2 : (t134 == t135) = false := by simpa using c16))
      (try (have c16b3 : ¬ (t134 = t135) := by simpa using c16))
      clear c16
      (first | rw [c16b0] | (simp only [i64_w, i32_w]; rw [c16b0]) | skip)
      have H' := Aside0.mk H
      clear H
      go_wp2_with (first | ((with_reducible refine gate_callee (f := 20) rfl ?_); refine goesL_ (some 23) rfl rfl Try.func20 (by kernel_rfl) rfl #[.string t130, .string t131] rfl (by (try simp only [List.map_toArray, List.map_cons, List.map_nil]); first | done | rfl | (simp only [List.length_drop, List.length_take]; rfl)) ?_; (with_reducible refine (word_Conjugate.calls k t130 t131 t134 _ A14.out).mono ?_); rintro e w17 ⟨rfl, hb⟩; refine ⟨_, rfl, ?_⟩; have n0_ := Aside0.mk (below_step (by repeat (first | (with_reducible first | exact HB.out | apply below_alloc | apply pw_below_drewN | apply below_drew1) | exact HB.out)) hb); clear HB; have HB := n0_; clear n0_; (try clear hb); (try clear hb2); (try clear hk); (try clear hi)) | ((with_reducible refine gate_callee (f := 21) rfl ?_); refine goesL_ (some 26) rfl rfl Try.func21 (by kernel_rfl) rfl #[.string t130, .string t131] rfl (by (try simp only [List.map_toArray, List.map_cons, List.map_nil]); first | done | rfl | (simp only [List.length_drop, List.length_take]; rfl)) ?_; (with_reducible refine (semigroupref01_Conjugate.calls k t130 t131 t135 _ A15.out).mono ?_); rintro e w' ⟨rfl, ⟨nd, rfl⟩⟩; refine ⟨_, rfl, ?_⟩))
      go_meet
      case rel => exact ⟨_, (true), (by first | rfl | (simp; done) | (simp [*]; done)), H', ⟨by first | omega | exact Nat.le_refl _⟩, ⟨by repeat (first | (with_reducible first | exact HB.out | apply below_alloc | apply pw_below_drewN | apply below_drew1) | exact HB.out)⟩⟩
    · rw [if_neg c16] at H
      have c16b0 : (t134 != t135) = false := by simpa using c16
      (try (have c16b1 : decide (t134 = t135) = true := by simpa using c16))
      (try (have c16b2 : (t134 == t135) = true := by simpa using c16))
      clear c16
      (first | rw [c16b0] | (simp only [i64_w, i32_w]; rw [c16b0]) | skip)
      replace H := Option.bind_eq_some_iff.mp H
      obtain ⟨t136, A180, H⟩ := H
      replace H : ((word_Conjugate.f k t130 t131).bind fun t137 => (semigrouplaw01_WordConjugates.j0 k t132 t133 (t136 != t137))) = some r := H
      have A18 := Aside0.mk A180
      clear A180
      replace H := Option.bind_eq_some_iff.mp H
      obtain ⟨t137, A190, H⟩ := H
      replace H : (semigrouplaw01_WordConjugates.j0 k t132 t133 (t136 != t137)) = some r := H
      have A19 := Aside0.mk A190
      clear A190
      have H' := Aside0.mk H
      clear H
      go_wp2_with (first | ((with_reducible refine gate_callee (f := 20) rfl ?_); refine goesL_ (some 23) rfl rfl Try.func20 (by kernel_rfl) rfl #[.string t130, .string t131] rfl (by (try simp only [List.map_toArray, List.map_cons, List.map_nil]); first | done | rfl | (simp only [List.length_drop, List.length_take]; rfl)) ?_; (with_reducible refine (word_Conjugate.calls k t130 t131 t134 _ A14.out).mono ?_); rintro e w20 ⟨rfl, hb⟩; refine ⟨_, rfl, ?_⟩; have n0_ := Aside0.mk (below_step (by repeat (first | (with_reducible first | exact HB.out | apply below_alloc | apply pw_below_drewN | apply below_drew1) | exact HB.out)) hb); clear HB; have HB := n0_; clear n0_; (try clear hb); (try clear hb2); (try clear hk); (try clear hi)) | ((with_reducible refine gate_callee (f := 21) rfl ?_); refine goesL_ (some 26) rfl rfl Try.func21 (by kernel_rfl) rfl #[.string t130, .string t131] rfl (by (try simp only [List.map_toArray, List.map_cons, List.map_nil]); first | done | rfl | (simp only [List.length_drop, List.length_take]; rfl)) ?_; (with_reducible refine (semigroupref01_Conjugate.calls k t130 t131 t135 _ A15.out).mono ?_); rintro e w' ⟨rfl, ⟨nd, rfl⟩⟩; refine ⟨_, rfl, ?_⟩) | (go_at_call 20; (with_reducible refine (word_Conjugate.calls k t131 t130 t136 _ A18.out).mono ?_); rintro e w21 ⟨rfl, hb⟩; have n0_ := Aside0.mk (below_step (by repeat (first | (with_reducible first | exact HB.out | apply below_alloc | apply pw_below_drewN | apply below_drew1) | exact HB.out)) hb); clear HB; have HB := n0_; clear n0_; (try clear hb); (try clear hb2); (try clear hk); (try clear hi)) | (go_at_call 20; (with_reducible refine (word_Conjugate.calls k t130 t131 t137 _ A19.out).mono ?_); rintro e w22 ⟨rfl, hb⟩; have n0_ := Aside0.mk (below_step (by repeat (first | (with_reducible first | exact HB.out | apply below_alloc | apply pw_below_drewN | apply below_drew1) | exact HB.out)) hb); clear HB; have HB := n0_; clear n0_; (try clear hb); (try clear hb2); (try clear hk); (try clear hi)))
      go_meet
      case rel => exact ⟨_, ((t136 != t137)), (by first | rfl | (simp; done) | (simp [*]; done)), H', ⟨by first | omega | exact Nat.le_refl _⟩, ⟨by repeat (first | (with_reducible first | exact HB.out | apply below_alloc | apply pw_below_drewN | apply below_drew1) | exact HB.out)⟩⟩
  case rest =>
    clear HC9
    try clear c1
    try clear c2
    try clear p2
    try clear c6
    try clear c10
    try clear c16
    try clear c16b0
    try clear c16b1
    try clear c16b2
    try clear c20
    try clear c21
    obtain ⟨kq, x36_8, rfl, HA, HJ8, HB⟩ := hcut
    cases kq with
    | zero => exact absurd HA.out (by simp [semigrouplaw01_WordConjugates.j0])
    | succ kj8 =>
      have H := HA.out
      clear HA
      simp only [semigrouplaw01_WordConjugates.j0] at H
      by_cases c23 : x36_8 = true
      · subst c23
        have H1 : (some false) = some r := by rw [if_pos rfl] at H; exact H
        clear H
        have H := H1
        clear H1
        obtain rfl := Option.some.inj H
        go_wp2
        go_ret
        exact ⟨by first | rfl | (simp [errW_none, errW_some] <;> rfl) | (simp [*, errW_none, errW_some] <;> rfl), by repeat (first | (with_reducible first | exact HB.out | apply below_alloc | apply pw_below_drewN | apply below_drew1) | exact HB.out)⟩
      · replace c23 := Bool.eq_false_iff.mpr c23
        subst c23
        have H1 : (if t132.size + t133.size ≤ 9223372036854775807 then ((word_Root.f kj8 (t132 ++ t133)).bind fun bt138 => (if t133.size + t132.size ≤ 9223372036854775807 then ((word_Root.f kj8 (t133 ++ t132)).bind fun bt140 => ((word_Conjugate.f kj8 (t132 ++ t133) (t133 ++ t132)).bind fun t142 => (if t142 = true then (if (bt138.1.size : Int) = (bt140.1.size : Int) then (if bt138.2 = bt140.2 then ((semigrouplaw01_awake.f kj8).bind fun t143 => (some t143)) else (some false)) else (some false)) else (some false)))) else (none))) else (none)) = some r := by rw [if_neg (show ¬ (false = true) by decide)] at H; exact H
        clear H
        have H := H1
        clear H1
        by_cases c24 : t132.size + t133.size ≤ 9223372036854775807
        · rw [if_pos c24] at H
          have c24b0 := eq_true c24
          have c24b1 : decide (t132.size + t133.size ≤ 9223372036854775807) = true := decide_eq_true c24
          try have c24b2 : (9223372036854775807 < t132.size + t133.size) = False := eq_false (Nat.not_lt.2 c24)
          replace H := Option.bind_eq_some_iff.mp H
          obtain ⟨⟨t138, t139⟩, A250, H⟩ := H
          replace H : (if t133.size + t132.size ≤ 9223372036854775807 then ((word_Root.f kj8 (t133 ++ t132)).bind fun bt140 => ((word_Conjugate.f kj8 (t132 ++ t133) (t133 ++ t132)).bind fun t142 => (if t142 = true then (if (t138.size : Int) = (bt140.1.size : Int) then (if t139 = bt140.2 then ((semigrouplaw01_awake.f kj8).bind fun t143 => (some t143)) else (some false)) else (some false)) else (some false)))) else (none)) = some r := H
          have A25 := Aside0.mk A250
          clear A250
          by_cases c26 : t133.size + t132.size ≤ 9223372036854775807
          · rw [if_pos c26] at H
            have c26b0 := eq_true c26
            have c26b1 : decide (t133.size + t132.size ≤ 9223372036854775807) = true := decide_eq_true c26
            try have c26b2 : (9223372036854775807 < t133.size + t132.size) = False := eq_false (Nat.not_lt.2 c26)
            replace H := Option.bind_eq_some_iff.mp H
            obtain ⟨⟨t140, t141⟩, A270, H⟩ := H
            replace H : ((word_Conjugate.f kj8 (t132 ++ t133) (t133 ++ t132)).bind fun t142 => (if t142 = true then (if (t138.size : Int) = (t140.size : Int) then (if t139 = t141 then ((semigrouplaw01_awake.f kj8).bind fun t143 => (some t143)) else (some false)) else (some false)) else (some false))) = some r := H
            have A27 := Aside0.mk A270
            clear A270
            replace H := Option.bind_eq_some_iff.mp H
            obtain ⟨t142, A280, H⟩ := H
            replace H : (if t142 = true then (if (t138.size : Int) = (t140.size : Int) then (if t139 = t141 then ((semigrouplaw01_awake.f kj8).bind fun t143 => (some t143)) else (some false)) else (some false)) else (some false)) = some r := H
            have A28 := Aside0.mk A280
            clear A280
            by_cases c29 : t142 = true
            · subst c29
              have H1 : (if (t138.size : Int) = (t140.size : Int) then (if t139 = t141 then ((semigrouplaw01_awake.f kj8).bind fun t143 => (some t143)) else (some false)) else (some false)) = some r := by rw [if_pos rfl] at H; exact H
              clear H
              have H := H1
              clear H1
              by_cases c30 : (t138.size : Int) = (t140.size : Int)
              · rw [if_pos c30] at H
                have c30b0 : ((t138.size : Int) == (t140.size : Int)) = true := beq_iff_eq.mpr c30
                have c30b1 : ((t138.size : Int) != (t140.size : Int)) = false := bne_eq_false_iff_eq.mpr c30
                have c30b2 : (t138.size == t140.size) = true := by first | simpa using c30 | (simp at c30 ⊢; omega)
                clear c30
                by_cases c31 : t139 = t141
                · rw [if_pos c31] at H
                  have c31b0 : (t139 == t141) = true := beq_iff_eq.mpr c31
                  have c31b1 : (t139 != t141) = false := bne_eq_false_iff_eq.mpr c31
                  clear c31
                  replace H := Option.bind_eq_some_iff.mp H
                  obtain ⟨t143, A320, H⟩ := H
                  replace H : (some t143) = some r := H
                  have A32 := Aside0.mk A320
                  clear A320
                  obtain rfl := Option.some.inj H
                  go_wp2_with (first | ((with_reducible refine gate_callee (f := 13) rfl ?_); refine goesL_ (some 41) rfl rfl Try.func13 (by kernel_rfl) rfl #[.string (t132 ++ t133)] rfl (by (try simp only [List.map_toArray, List.map_cons, List.map_nil]); first | done | rfl | (simp only [List.length_drop, List.length_take]; rfl)) ?_; (with_reducible refine (word_Root.calls kj8 (t132 ++ t133) t138 t139 _ A25.out).mono ?_); rintro e w33 ⟨rfl, hb⟩; refine ⟨_, rfl, ?_⟩; have n0_ := Aside0.mk (below_step (by repeat (first | (with_reducible first | exact HB.out | apply below_alloc | apply pw_below_drewN | apply below_drew1) | exact HB.out)) hb); clear HB; have HB := n0_; clear n0_; (try clear hb); (try clear hb2); (try clear hk); (try clear hi)) | ((with_reducible refine gate_callee (f := 13) rfl ?_); refine goesL_ (some 48) rfl rfl Try.func13 (by kernel_rfl) rfl #[.string (t133 ++ t132)] rfl (by (try simp only [List.map_toArray, List.map_cons, List.map_nil]); first | done | rfl | (simp only [List.length_drop, List.length_take]; rfl)) ?_; (with_reducible refine (word_Root.calls kj8 (t133 ++ t132) t140 t141 _ A27.out).mono ?_); rintro e w34 ⟨rfl, hb⟩; refine ⟨_, rfl, ?_⟩; have n0_ := Aside0.mk (below_step (by repeat (first | (with_reducible first | exact HB.out | apply below_alloc | apply pw_below_drewN | apply below_drew1) | exact HB.out)) hb); clear HB; have HB := n0_; clear n0_; (try clear hb); (try clear hb2); (try clear hk); (try clear hi)) | ((with_reducible refine gate_callee (f := 20) rfl ?_); refine goesL_ (some 57) rfl rfl Try.func20 (by kernel_rfl) rfl #[.string (t132 ++ t133), .string (t133 ++ t132)] rfl (by (try simp only [List.map_toArray, List.map_cons, List.map_nil]); first | done | rfl | (simp only [List.length_drop, List.length_take]; rfl)) ?_; (with_reducible refine (word_Conjugate.calls kj8 (t132 ++ t133) (t133 ++ t132) true _ A28.out).mono ?_); rintro e w35 ⟨rfl, hb⟩; refine ⟨_, rfl, ?_⟩; have n0_ := Aside0.mk (below_step (by repeat (first | (with_reducible first | exact HB.out | apply below_alloc | apply pw_below_drewN | apply below_drew1) | exact HB.out)) hb); clear HB; have HB := n0_; clear n0_; (try clear hb); (try clear hb2); (try clear hk); (try clear hi)) | (go_at_call 11; (with_reducible refine (semigrouplaw01_awake.calls kj8  t143 _ A32.out).mono ?_); rintro e w36 ⟨rfl, hb⟩; have n0_ := Aside0.mk (below_step (by repeat (first | (with_reducible first | exact HB.out | apply below_alloc | apply pw_below_drewN | apply below_drew1) | exact HB.out)) hb); clear HB; have HB := n0_; clear n0_; (try clear hb); (try clear hb2); (try clear hk); (try clear hi)))
                  go_ret
                  exact ⟨by first | rfl | (simp [errW_none, errW_some] <;> rfl) | (simp [*, errW_none, errW_some] <;> rfl), by repeat (first | (with_reducible first | exact HB.out | apply below_alloc | apply pw_below_drewN | apply below_drew1) | exact HB.out)⟩
                · rw [if_neg c31] at H
                  have c31b0 : (t139 == t141) = false := beq_eq_false_iff_ne.mpr c31
                  have c31b1 : (t139 != t141) = true := bne_iff_ne.mpr c31
                  obtain rfl := Option.some.inj H
                  go_wp2_with (first | ((with_reducible refine gate_callee (f := 13) rfl ?_); refine goesL_ (some 41) rfl rfl Try.func13 (by kernel_rfl) rfl #[.string (t132 ++ t133)] rfl (by (try simp only [List.map_toArray, List.map_cons, List.map_nil]); first | done | rfl | (simp only [List.length_drop, List.length_take]; rfl)) ?_; (with_reducible refine (word_Root.calls kj8 (t132 ++ t133) t138 t139 _ A25.out).mono ?_); rintro e w37 ⟨rfl, hb⟩; refine ⟨_, rfl, ?_⟩; have n0_ := Aside0.mk (below_step (by repeat (first | (with_reducible first | exact HB.out | apply below_alloc | apply pw_below_drewN | apply below_drew1) | exact HB.out)) hb); clear HB; have HB := n0_; clear n0_; (try clear hb); (try clear hb2); (try clear hk); (try clear hi)) | ((with_reducible refine gate_callee (f := 13) rfl ?_); refine goesL_ (some 48) rfl rfl Try.func13 (by kernel_rfl) rfl #[.string (t133 ++ t132)] rfl (by (try simp only [List.map_toArray, List.map_cons, List.map_nil]); first | done | rfl | (simp only [List.length_drop, List.length_take]; rfl)) ?_; (with_reducible refine (word_Root.calls kj8 (t133 ++ t132) t140 t141 _ A27.out).mono ?_); rintro e w38 ⟨rfl, hb⟩; refine ⟨_, rfl, ?_⟩; have n0_ := Aside0.mk (below_step (by repeat (first | (with_reducible first | exact HB.out | apply below_alloc | apply pw_below_drewN | apply below_drew1) | exact HB.out)) hb); clear HB; have HB := n0_; clear n0_; (try clear hb); (try clear hb2); (try clear hk); (try clear hi)) | ((with_reducible refine gate_callee (f := 20) rfl ?_); refine goesL_ (some 57) rfl rfl Try.func20 (by kernel_rfl) rfl #[.string (t132 ++ t133), .string (t133 ++ t132)] rfl (by (try simp only [List.map_toArray, List.map_cons, List.map_nil]); first | done | rfl | (simp only [List.length_drop, List.length_take]; rfl)) ?_; (with_reducible refine (word_Conjugate.calls kj8 (t132 ++ t133) (t133 ++ t132) true _ A28.out).mono ?_); rintro e w39 ⟨rfl, hb⟩; refine ⟨_, rfl, ?_⟩; have n0_ := Aside0.mk (below_step (by repeat (first | (with_reducible first | exact HB.out | apply below_alloc | apply pw_below_drewN | apply below_drew1) | exact HB.out)) hb); clear HB; have HB := n0_; clear n0_; (try clear hb); (try clear hb2); (try clear hk); (try clear hi)))
                  go_ret
                  exact ⟨by first | rfl | (simp [errW_none, errW_some] <;> rfl) | (simp [*, errW_none, errW_some] <;> rfl), by repeat (first | (with_reducible first | exact HB.out | apply below_alloc | apply pw_below_drewN | apply below_drew1) | exact HB.out)⟩
              · rw [if_neg c30] at H
                have c30b0 : ((t138.size : Int) == (t140.size : Int)) = false := beq_eq_false_iff_ne.mpr c30
                have c30b1 : ((t138.size : Int) != (t140.size : Int)) = true := bne_iff_ne.mpr c30
                have c30b2 : (t138.size == t140.size) = false := by first | simpa using c30 | (simp at c30 ⊢; omega)
                obtain rfl := Option.some.inj H
                go_wp2_with (first | ((with_reducible refine gate_callee (f := 13) rfl ?_); refine goesL_ (some 41) rfl rfl Try.func13 (by kernel_rfl) rfl #[.string (t132 ++ t133)] rfl (by (try simp only [List.map_toArray, List.map_cons, List.map_nil]); first | done | rfl | (simp only [List.length_drop, List.length_take]; rfl)) ?_; (with_reducible refine (word_Root.calls kj8 (t132 ++ t133) t138 t139 _ A25.out).mono ?_); rintro e w40 ⟨rfl, hb⟩; refine ⟨_, rfl, ?_⟩; have n0_ := Aside0.mk (below_step (by repeat (first | (with_reducible first | exact HB.out | apply below_alloc | apply pw_below_drewN | apply below_drew1) | exact HB.out)) hb); clear HB; have HB := n0_; clear n0_; (try clear hb); (try clear hb2); (try clear hk); (try clear hi)) | ((with_reducible refine gate_callee (f := 13) rfl ?_); refine goesL_ (some 48) rfl rfl Try.func13 (by kernel_rfl) rfl #[.string (t133 ++ t132)] rfl (by (try simp only [List.map_toArray, List.map_cons, List.map_nil]); first | done | rfl | (simp only [List.length_drop, List.length_take]; rfl)) ?_; (with_reducible refine (word_Root.calls kj8 (t133 ++ t132) t140 t141 _ A27.out).mono ?_); rintro e w41 ⟨rfl, hb⟩; refine ⟨_, rfl, ?_⟩; have n0_ := Aside0.mk (below_step (by repeat (first | (with_reducible first | exact HB.out | apply below_alloc | apply pw_below_drewN | apply below_drew1) | exact HB.out)) hb); clear HB; have HB := n0_; clear n0_; (try clear hb); (try clear hb2); (try clear hk); (try clear hi)) | ((with_reducible refine gate_callee (f := 20) rfl ?_); refine goesL_ (some 57) rfl rfl Try.func20 (by kernel_rfl) rfl #[.string (t132 ++ t133), .string (t133 ++ t132)] rfl (by (try simp only [List.map_toArray, List.map_cons, List.map_nil]); first | done | rfl | (simp only [List.length_drop, List.length_take]; rfl)) ?_; (with_reducible refine (word_Conjugate.calls kj8 (t132 ++ t133) (t133 ++ t132) true _ A28.out).mono ?_); rintro e w42 ⟨rfl, hb⟩; refine ⟨_, rfl, ?_⟩; have n0_ := Aside0.mk (below_step (by repeat (first | (with_reducible first | exact HB.out | apply below_alloc | apply pw_below_drewN | apply below_drew1) | exact HB.out)) hb); clear HB; have HB := n0_; clear n0_; (try clear hb); (try clear hb2); (try clear hk); (try clear hi)))
                go_ret
                exact ⟨by first | rfl | (simp [errW_none, errW_some] <;> rfl) | (simp [*, errW_none, errW_some] <;> rfl), by repeat (first | (with_reducible first | exact HB.out | apply below_alloc | apply pw_below_drewN | apply below_drew1) | exact HB.out)⟩
            · replace c29 := Bool.eq_false_iff.mpr c29
              subst c29
              have H1 : (some false) = some r := by rw [if_neg (show ¬ (false = true) by decide)] at H; exact H
              clear H
              have H := H1
              clear H1
              obtain rfl := Option.some.inj H
              go_wp2_with (first | ((with_reducible refine gate_callee (f := 13) rfl ?_); refine goesL_ (some 41) rfl rfl Try.func13 (by kernel_rfl) rfl #[.string (t132 ++ t133)] rfl (by (try simp only [List.map_toArray, List.map_cons, List.map_nil]); first | done | rfl | (simp only [List.length_drop, List.length_take]; rfl)) ?_; (with_reducible refine (word_Root.calls kj8 (t132 ++ t133) t138 t139 _ A25.out).mono ?_); rintro e w43 ⟨rfl, hb⟩; refine ⟨_, rfl, ?_⟩; have n0_ := Aside0.mk (below_step (by repeat (first | (with_reducible first | exact HB.out | apply below_alloc | apply pw_below_drewN | apply below_drew1) | exact HB.out)) hb); clear HB; have HB := n0_; clear n0_; (try clear hb); (try clear hb2); (try clear hk); (try clear hi)) | ((with_reducible refine gate_callee (f := 13) rfl ?_); refine goesL_ (some 48) rfl rfl Try.func13 (by kernel_rfl) rfl #[.string (t133 ++ t132)] rfl (by (try simp only [List.map_toArray, List.map_cons, List.map_nil]); first | done | rfl | (simp only [List.length_drop, List.length_take]; rfl)) ?_; (with_reducible refine (word_Root.calls kj8 (t133 ++ t132) t140 t141 _ A27.out).mono ?_); rintro e w44 ⟨rfl, hb⟩; refine ⟨_, rfl, ?_⟩; have n0_ := Aside0.mk (below_step (by repeat (first | (with_reducible first | exact HB.out | apply below_alloc | apply pw_below_drewN | apply below_drew1) | exact HB.out)) hb); clear HB; have HB := n0_; clear n0_; (try clear hb); (try clear hb2); (try clear hk); (try clear hi)) | ((with_reducible refine gate_callee (f := 20) rfl ?_); refine goesL_ (some 57) rfl rfl Try.func20 (by kernel_rfl) rfl #[.string (t132 ++ t133), .string (t133 ++ t132)] rfl (by (try simp only [List.map_toArray, List.map_cons, List.map_nil]); first | done | rfl | (simp only [List.length_drop, List.length_take]; rfl)) ?_; (with_reducible refine (word_Conjugate.calls kj8 (t132 ++ t133) (t133 ++ t132) false _ A28.out).mono ?_); rintro e w45 ⟨rfl, hb⟩; refine ⟨_, rfl, ?_⟩; have n0_ := Aside0.mk (below_step (by repeat (first | (with_reducible first | exact HB.out | apply below_alloc | apply pw_below_drewN | apply below_drew1) | exact HB.out)) hb); clear HB; have HB := n0_; clear n0_; (try clear hb); (try clear hb2); (try clear hk); (try clear hi)))
              go_ret
              exact ⟨by first | rfl | (simp [errW_none, errW_some] <;> rfl) | (simp [*, errW_none, errW_some] <;> rfl), by repeat (first | (with_reducible first | exact HB.out | apply below_alloc | apply pw_below_drewN | apply below_drew1) | exact HB.out)⟩
          · rw [if_neg c26] at H
            exact absurd H (by simp)
        · rw [if_neg c24] at H
          exact absurd H (by simp)

/-- THE ONE PURE STATEMENT of semigrouplaw01_WordConjugates: yours. -/
def semigrouplaw01_WordConjugates.Pure : Prop := ∀ (a0 : ByteArray) (a1 : ByteArray) (a2 : ByteArray) (a3 : ByteArray), a0.size ≤ 140737488351232 → a1.size ≤ 140737488351232 → a2.size ≤ 140737488351232 → a3.size ≤ 140737488351232 → ∃ k, semigrouplaw01_WordConjugates.f k a0 a1 a2 a3 = some true
theorem semigrouplaw01_WordConjugates.walk (P : semigrouplaw01_WordConjugates.Pure) (a0 : ByteArray) (a1 : ByteArray) (a2 : ByteArray) (a3 : ByteArray) (w : World) (w0 : a0.size ≤ 140737488351232) (w1 : a1.size ≤ 140737488351232) (w2 : a2.size ≤ 140737488351232) (w3 : a3.size ≤ 140737488351232) :
    Calls Try.prog 6 #[.string a0, .string a1, .string a2, .string a3] w fun e w' => e = .returned (.bool true) ∧ Below w.heap.size w w' := by
  obtain ⟨k, h⟩ := P a0 a1 a2 a3 w0 w1 w2 w3
  refine (semigrouplaw01_WordConjugates.calls k a0 a1 a2 a3 true w h).mono ?_
  rintro e w' ⟨rfl, hd⟩
  exact ⟨rfl, hd⟩

end Go.Proofs.Ytfjmopdkpcplmab.QWordConjugates
