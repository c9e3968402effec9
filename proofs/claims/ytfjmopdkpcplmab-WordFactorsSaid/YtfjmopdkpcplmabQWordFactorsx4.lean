-- Written by pr.py (a program of this proof) for the claim: the functions and their walks.
import Derived.Test.YtfjmopdkpcplmabQWordFactorsx0
import Derived.Test.YtfjmopdkpcplmabQWordFactorsx1
import Derived.Test.YtfjmopdkpcplmabQWordFactorsx2
import Derived.Test.YtfjmopdkpcplmabQWordFactorsx3
namespace Go.Proofs.Ytfjmopdkpcplmab.QWordFactors
open Go.RowKit Go.Proofs.YtfjmopdkpcplmabW.PrintWords Go.Proofs.YtfjmopdkpcplmabW.PrintLast Go.Proofs.YtfjmopdkpcplmabW.PrintMore Go.Proofs.Ytfjmopdkpcplmab.XM
attribute [local go_sem] Go.Proofs.Ytfjmopdkpcplmab.XW.str_gtr Go.Proofs.Ytfjmopdkpcplmab.XW.str_geq Go.Proofs.Ytfjmopdkpcplmab.XW.str_leq Go.Proofs.Ytfjmopdkpcplmab.XW.tmod_one
attribute [local go_sem] max2_int min2_int max_two min_two max_three min_three max_four min_four   -- for this text's walks alone
set_option linter.unusedVariables false
set_option linter.unusedSimpArgs false

/-! ### semigroupref01_Factors: function 24 -/
def semigroupref01_Factors.l0 : Nat → ByteArray → Int → List ByteArray → Int → Option (List ByteArray)
  | 0, _, _, _, _ => none
  | k + 1, x0, x1, x5, x6 => if (wrap64 (x6 + x1)) ≤ (x0.size : Int) then (if 0 ≤ x6 then (if x6 ≤ (wrap64 (x6 + x1)) then ((semigroupref01_Insert.f k x5 (x0.extract (x6 : Int).toNat ((wrap64 (x6 + x1)) : Int).toNat)).bind fun t170 => (semigroupref01_Factors.l0 k x0 x1 t170 (wrap64 (x6 + 1)))) else (none)) else (none)) else (some x5)
def semigroupref01_Factors.f (k : Nat) (a0 : ByteArray) (a1 : Int) : Option (List ByteArray) := semigroupref01_Factors.l0 k a0 a1 ([] : List ByteArray) 0
theorem semigroupref01_Factors.mono_l : ∀ k, (∀ y0 y1 y2 y3, LeO (semigroupref01_Factors.l0 k y0 y1 y2 y3) (semigroupref01_Factors.l0 (k + 1) y0 y1 y2 y3))
  | 0 => fun _ _ _ _ r h => by simp [semigroupref01_Factors.l0] at h
  | k + 1 => by
    have ih0 := semigroupref01_Factors.mono_l k
    · intro y0 y1 y2 y3
      unfold semigroupref01_Factors.l0
      repeat' first
      | (with_reducible exact ih0 _ _ _ _)
      | (with_reducible exact semigroupref01_Insert.mono _ _ _)
      | (with_reducible exact LeO.refl _)
      | (with_reducible exact LeO.none _)
      | (with_reducible refine LeO.ite ?_ ?_)
      | (with_reducible refine LeO.bind ?_ (fun _ => ?_))
      | exact ih0 _ _ _ _
      | exact semigroupref01_Insert.mono _ _ _
      | exact LeO.none _
      | refine LeO.ite ?_ ?_
      | refine LeO.bind ?_ (fun _ => ?_)
theorem semigroupref01_Factors.mono : ∀ a0 a1 k, LeO (semigroupref01_Factors.f k a0 a1) (semigroupref01_Factors.f (k + 1) a0 a1) := by
  intro a0 a1 k
  have ih0 := semigroupref01_Factors.mono_l k
  unfold semigroupref01_Factors.f
  repeat' first
      | (with_reducible exact ih0 _ _ _ _)
      | (with_reducible exact semigroupref01_Insert.mono _ _ _)
      | (with_reducible exact LeO.refl _)
      | (with_reducible exact LeO.none _)
      | (with_reducible refine LeO.ite ?_ ?_)
      | (with_reducible refine LeO.bind ?_ (fun _ => ?_))
      | exact ih0 _ _ _ _
      | exact semigroupref01_Insert.mono _ _ _
      | exact LeO.none _
      | refine LeO.ite ?_ ?_
      | refine LeO.bind ?_ (fun _ => ?_)
set_option maxHeartbeats 8000000 in
set_option maxRecDepth 100000 in
theorem semigroupref01_Factors.calls (k : Nat) (a0 : ByteArray) (a1 : Int) (r : List ByteArray) (w : World) (h : semigroupref01_Factors.f k a0 a1 = some r) :
    Calls Try.prog 24 #[.string a0, .int .i64 a1] w fun e w' => ∃ v0_ : Value, e = .returned (v0_) ∧ Kd.R Kd.string 9 w' w.heap.size (fun _ => True) v0_ r ∧ Below w.heap.size w w' := by
  have HB := Aside0.mk (Below.refl w.heap.size w)
  have H : (semigroupref01_Factors.l0 k a0 a1 ([] : List ByteArray) 0) = some r := h
  clear h
  have H' := Aside0.mk H
  clear H
  go_enter Try.func24, Try.ntmps24
  go_wp2
  go_loopg [5, 6] k (fun kq v5 v6 w' => ∃ (x5_1 : List ByteArray) (x6_1 : Int), v6 = .int .i64 x6_1 ∧ Aside0 (semigroupref01_Factors.l0 kq a0 a1 x5_1 x6_1 = some r) ∧ Aside0 (kq ≤ k) ∧ Aside0 (Kd.R Kd.string 9 w' w.heap.size (fun _ => True) v5 x5_1) ∧ Aside0 (Below w.heap.size w w'))
  case atStart => exact ⟨(([] : List ByteArray)), (0), (by first | rfl | (simp; done) | (simp [*]; done)), H', ⟨Nat.le_refl _⟩, ⟨by first | exact Kd.R_nil _ _ _ _ _ | exact Kd.N_nil _ _ _ _ _ | exact Kd.V_nil _ _ _ _ _ | exact Kd.Q_nil _ _ _ _ _ | exact Kd.S_nil _ _ _ _ _⟩, ⟨by repeat (first | (with_reducible first | exact HB.out | apply below_alloc | apply pw_below_drewN | apply below_drew1) | exact HB.out)⟩⟩
  case round =>
    clear H'
    try clear c2
    try clear p2
    obtain ⟨x5_1, x6_1, rfl, HA, HK1, HO_5, HB⟩ := hrel
    cases gk with
    | zero => exact absurd HA.out (by simp [semigroupref01_Factors.l0])
    | succ k1 =>
      have H := HA.out
      clear HA
      simp only [semigroupref01_Factors.l0] at H
      by_cases c3 : (wrap64 (x6_1 + a1)) ≤ (a0.size : Int)
      · rw [if_pos c3] at H
        have c3b0 : decide ((wrap64 (x6_1 + a1)) ≤ (a0.size : Int)) = true := decide_eq_true c3
        clear c3
        by_cases c4 : 0 ≤ x6_1
        · rw [if_pos c4] at H
          have c4b0 := eq_true c4
          have c4b1 : decide (0 ≤ x6_1) = true := decide_eq_true c4
          clear c4
          by_cases c5 : x6_1 ≤ (wrap64 (x6_1 + a1))
          · rw [if_pos c5] at H
            have c5b0 := eq_true c5
            have c5b1 : decide (x6_1 ≤ (wrap64 (x6_1 + a1))) = true := decide_eq_true c5
            have c6b0 := eq_true (of_decide_eq_true (by first | (with_reducible assumption) | assumption) : (wrap64 (x6_1 + a1)) ≤ (a0.size : Int))
            replace H := Option.bind_eq_some_iff.mp H
            obtain ⟨t170, A70, H⟩ := H
            replace H : (semigroupref01_Factors.l0 k1 a0 a1 t170 (wrap64 (x6_1 + 1))) = some r := H
            have A7 := Aside0.mk A70
            clear A70
            have H' := Aside0.mk H
            clear H
            obtain ⟨Ao8, co8, eo8⟩ := Kd.R_slice HO_5.out
            subst eo8
            go_wp2_with (first | ((with_reducible refine gate_callee (f := 33) rfl ?_); refine goesL_ (some 22) rfl rfl Try.func33 (by kernel_rfl) rfl #[.slice Ao8 x5_1.length co8, .string (a0.extract (x6_1 : Int).toNat ((wrap64 (x6_1 + a1)) : Int).toNat)] rfl (by (try simp only [List.map_toArray, List.map_cons, List.map_nil]); first | done | rfl | (simp only [List.length_drop, List.length_take]; rfl)) ?_; (with_reducible refine (semigroupref01_Insert.calls k1 (fun k_ => some k_ = (.slice Ao8 x5_1.length co8 : Value).ownBlock) (.slice Ao8 x5_1.length co8) x5_1 (a0.extract (x6_1 : Int).toNat ((wrap64 (x6_1 + a1)) : Int).toNat) t170 w _ ?side1 ?side2 A7.out).mono ?_); (case side1 => repeat (first | (with_reducible first | exact HB.out | apply below_alloc | apply pw_below_drewN | apply below_drew1) | exact HB.out)); (case side2 => exact Kd.R_tight rfl HO_5.out); rintro e w9 ⟨v171, rfl, ho0, hb, hkp⟩; refine ⟨_, rfl, ?_⟩; have n0_ := Aside0.mk (Kd.R_mono (ok' := fun k_ => True) ho0 (fun k_ hk_ => trivial)); have n1_ := Aside0.mk (hb); clear HB; clear HO_5; have HO172 := n0_; have HB := n1_; clear n0_ n1_; (try clear hb); (try clear hkp); (try clear ho0)))
            go_roundg k1
            case measure => have := HK1.out; omega
            case rel => exact ⟨(t170), (wrap64 (x6_1 + 1)), (by first | rfl | (simp; done) | (simp [*]; done)), H', ⟨by have := HK1.out; omega⟩, ⟨by (with_reducible repeat (first | apply Kd.R_alloc | apply Kd.R_drewN | apply Kd.R_drew)); exact HO172.out⟩, ⟨by repeat (first | (with_reducible first | exact HB.out | apply below_alloc | apply pw_below_drewN | apply below_drew1) | exact HB.out)⟩⟩
          · rw [if_neg c5] at H
            exact absurd H (by simp)
        · rw [if_neg c4] at H
          exact absurd H (by simp)
      · rw [if_neg c3] at H
        have c3b0 : decide ((wrap64 (x6_1 + a1)) ≤ (a0.size : Int)) = false := decide_eq_false c3
        clear c3
        obtain rfl := Option.some.inj H
        go_wp2
        go_ret
        exact ⟨_, by first | rfl | (simp [errW_none, errW_some] <;> rfl) | (simp [*, errW_none, errW_some] <;> rfl), by (with_reducible repeat (first | apply Kd.R_alloc | apply Kd.R_drewN | apply Kd.R_drew)); exact HO_5.out, by repeat (first | (with_reducible first | exact HB.out | apply below_alloc | apply pw_below_drewN | apply below_drew1) | exact HB.out)⟩

/-! ### semigrouplaw01_WordFactors: function 7 -/
def semigrouplaw01_WordFactors.j0 : Nat → ByteArray → Int → List ByteArray → Bool → Option (Bool)
  | 0, _, _, _, _ => none
  | k + 1, x0, x1, x5, x18 => if x18 = true then (if (x5.length : Int) = 0 then ((semigrouplaw01_awake.f k).bind fun t177 => (some t177)) else (some false)) else ((semigroupref01_Factors.f k x0 x1).bind fun t178 => ((semigroupref01_Same.f k x5 t178).bind fun t181 => (if t181 = true then ((semigrouplaw01_awake.f k).bind fun t182 => (some t182)) else (some false))))
def semigrouplaw01_WordFactors.f (k : Nat) (a0 : ByteArray) (a1 : Int) : Option (Bool) := (semigrouplaw01_cut.f a0 100).bind fun t173 => ((word_Factors.f k t173 a1).bind fun t174 => (if a1 < 0 then (semigrouplaw01_WordFactors.j0 k t173 a1 t174 true) else (semigrouplaw01_WordFactors.j0 k t173 a1 t174 (decide (a1 > (t173.size : Int))))))
theorem semigrouplaw01_WordFactors.mono_l : ∀ k, (∀ y0 y1 y2 y3, LeO (semigrouplaw01_WordFactors.j0 k y0 y1 y2 y3) (semigrouplaw01_WordFactors.j0 (k + 1) y0 y1 y2 y3))
  | 0 => fun _ _ _ _ r h => by simp [semigrouplaw01_WordFactors.j0] at h
  | k + 1 => by
    have ih0 := semigrouplaw01_WordFactors.mono_l k
    · intro y0 y1 y2 y3
      unfold semigrouplaw01_WordFactors.j0
      repeat' first
      | (with_reducible exact ih0 _ _ _ _)
      | (with_reducible exact semigrouplaw01_awake.mono _)
      | (with_reducible exact semigroupref01_Factors.mono _ _ _)
      | (with_reducible exact semigroupref01_Same.mono _ _ _)
      | (with_reducible exact word_Factors.mono _ _ _)
      | (with_reducible exact LeO.refl _)
      | (with_reducible exact LeO.none _)
      | (with_reducible refine LeO.ite ?_ ?_)
      | (with_reducible refine LeO.bind ?_ (fun _ => ?_))
      | exact ih0 _ _ _ _
      | exact semigrouplaw01_awake.mono _
      | exact semigroupref01_Factors.mono _ _ _
      | exact semigroupref01_Same.mono _ _ _
      | exact word_Factors.mono _ _ _
      | exact LeO.none _
      | refine LeO.ite ?_ ?_
      | refine LeO.bind ?_ (fun _ => ?_)
theorem semigrouplaw01_WordFactors.mono : ∀ a0 a1 k, LeO (semigrouplaw01_WordFactors.f k a0 a1) (semigrouplaw01_WordFactors.f (k + 1) a0 a1) := by
  intro a0 a1 k
  have ih0 := semigrouplaw01_WordFactors.mono_l k
  unfold semigrouplaw01_WordFactors.f
  repeat' first
      | (with_reducible exact ih0 _ _ _ _)
      | (with_reducible exact semigrouplaw01_awake.mono _)
      | (with_reducible exact semigroupref01_Factors.mono _ _ _)
      | (with_reducible exact semigroupref01_Same.mono _ _ _)
      | (with_reducible exact word_Factors.mono _ _ _)
      | (with_reducible exact LeO.refl _)
      | (with_reducible exact LeO.none _)
      | (with_reducible refine LeO.ite ?_ ?_)
      | (with_reducible refine LeO.bind ?_ (fun _ => ?_))
      | exact ih0 _ _ _ _
      | exact semigrouplaw01_awake.mono _
      | exact semigroupref01_Factors.mono _ _ _
      | exact semigroupref01_Same.mono _ _ _
      | exact word_Factors.mono _ _ _
      | exact LeO.none _
      | refine LeO.ite ?_ ?_
      | refine LeO.bind ?_ (fun _ => ?_)
set_option maxHeartbeats 8000000 in
set_option maxRecDepth 100000 in
theorem semigrouplaw01_WordFactors.calls (k : Nat) (a0 : ByteArray) (a1 : Int) (r : Bool) (w : World) (h : semigrouplaw01_WordFactors.f k a0 a1 = some r) :
    Calls Try.prog 7 #[.string a0, .int .i64 a1] w fun e w' => e = .returned (.bool r) ∧ Below w.heap.size w w' := by
  have HB := Aside0.mk (Below.refl w.heap.size w)
  have H : ((semigrouplaw01_cut.f a0 100).bind fun t173 => ((word_Factors.f k t173 a1).bind fun t174 => (if a1 < 0 then (semigrouplaw01_WordFactors.j0 k t173 a1 t174 true) else (semigrouplaw01_WordFactors.j0 k t173 a1 t174 (decide (a1 > (t173.size : Int))))))) = some r := h
  clear h
  replace H := Option.bind_eq_some_iff.mp H
  obtain ⟨t173, A30, H⟩ := H
  replace H : ((word_Factors.f k t173 a1).bind fun t174 => (if a1 < 0 then (semigrouplaw01_WordFactors.j0 k t173 a1 t174 true) else (semigrouplaw01_WordFactors.j0 k t173 a1 t174 (decide (a1 > (t173.size : Int)))))) = some r := H
  have A3 := Aside0.mk A30
  clear A30
  replace H := Option.bind_eq_some_iff.mp H
  obtain ⟨t174, A40, H⟩ := H
  replace H : (if a1 < 0 then (semigrouplaw01_WordFactors.j0 k t173 a1 t174 true) else (semigrouplaw01_WordFactors.j0 k t173 a1 t174 (decide (a1 > (t173.size : Int))))) = some r := H
  have A4 := Aside0.mk A40
  clear A40
  have HC5 := Aside0.mk H
  clear H
  go_enter Try.func7, Try.ntmps7
  go_upto_region 3 with (first | ((with_reducible refine gate_callee (f := 10) rfl ?_); refine goesL_ (some 7) rfl rfl Try.func10 (by kernel_rfl) rfl #[.string a0, .int .i64 100] rfl (by (try simp only [List.map_toArray, List.map_cons, List.map_nil]); first | done | rfl | (simp only [List.length_drop, List.length_take]; rfl)) ?_; (with_reducible refine (semigrouplaw01_cut.calls a0 100 t173 _ A3.out).mono ?_); rintro e w6 ⟨rfl, hb⟩; refine ⟨_, rfl, ?_⟩; have n0_ := Aside0.mk (below_step (by repeat (first | (with_reducible first | exact HB.out | apply below_alloc | apply pw_below_drewN | apply below_drew1) | exact HB.out)) hb); clear HB; have HB := n0_; clear n0_; (try clear hb); (try clear hb2); (try clear hk); (try clear hi)) | ((with_reducible refine gate_callee (f := 22) rfl ?_); refine goesL_ (some 10) rfl rfl Try.func22 (by kernel_rfl) rfl #[.string t173, .int .i64 a1] rfl (by (try simp only [List.map_toArray, List.map_cons, List.map_nil]); first | done | rfl | (simp only [List.length_drop, List.length_take]; rfl)) ?_; (with_reducible refine (word_Factors.calls k t173 a1 t174 _ A4.out).mono ?_); rintro e w7 ⟨v175, rfl, ho0, hb⟩; refine ⟨_, rfl, ?_⟩; have n0_ := Aside0.mk (Kd.R_lower ho0 (below_size (by repeat (first | (with_reducible first | exact HB.out | apply below_alloc | apply pw_below_drewN | apply below_drew1) | exact HB.out)))); have n1_ := Aside0.mk (below_step (by repeat (first | (with_reducible first | exact HB.out | apply below_alloc | apply pw_below_drewN | apply below_drew1) | exact HB.out)) hb); clear HB; have HO176 := n0_; have HB := n1_; clear n0_ n1_; (try clear hb); (try clear hb2); (try clear hk); (try clear hi); (try clear ho0)))
  (try simp only [Act.put, List.setIfInBounds_toArray, List.set_cons_zero, List.set_cons_succ])
  go_cut [18] (fun v18 wc => ∃ (kq : Nat) (x18_4 : Bool), v18 = .bool x18_4 ∧ Aside0 (semigrouplaw01_WordFactors.j0 kq t173 a1 t174 x18_4 = some r) ∧ Aside0 (kq ≤ k) ∧ Aside0 (Kd.R Kd.string 9 wc w.heap.size (fun _ => True) v175 t174) ∧ Aside0 (Below w.heap.size w wc))
  case first =>
    have H := HC5.out
    clear HC5
    by_cases c8 : a1 < 0
    · rw [if_pos c8] at H
      have c8b0 : decide (a1 < 0) = true := decide_eq_true c8
      clear c8
      (first | rw [c8b0] | (simp only [i64_w, i32_w]; rw [c8b0]) | skip)
      have H' := Aside0.mk H
      clear H
      go_wp2
      go_meet
      case rel => exact ⟨_, (true), (by first | rfl | (simp; done) | (simp [*]; done)), H', ⟨by first | omega | exact Nat.le_refl _⟩, ⟨by (with_reducible repeat (first | apply Kd.R_alloc | apply Kd.R_drewN | apply Kd.R_drew)); exact HO176.out⟩, ⟨by repeat (first | (with_reducible first | exact HB.out | apply below_alloc | apply pw_below_drewN | apply below_drew1) | exact HB.out)⟩⟩
    · rw [if_neg c8] at H
      have c8b0 : decide (a1 < 0) = false := decide_eq_false c8
      clear c8
      (first | rw [c8b0] | (simp only [i64_w, i32_w]; rw [c8b0]) | skip)
      have H' := Aside0.mk H
      clear H
      go_wp2
      go_meet
      case rel => exact ⟨_, (decide (a1 > (t173.size : Int))), (by first | rfl | (simp; done) | (simp [*]; done)), H', ⟨by first | omega | exact Nat.le_refl _⟩, ⟨by (with_reducible repeat (first | apply Kd.R_alloc | apply Kd.R_drewN | apply Kd.R_drew)); exact HO176.out⟩, ⟨by repeat (first | (with_reducible first | exact HB.out | apply below_alloc | apply pw_below_drewN | apply below_drew1) | exact HB.out)⟩⟩
  case rest =>
    clear HC5
    try clear c1
    try clear c2
    try clear p2
    try clear c7
    try clear c8
    try clear c8b0
    obtain ⟨kq, x18_4, rfl, HA, HJ4, HO_5, HB⟩ := hcut
    cases kq with
    | zero => exact absurd HA.out (by simp [semigrouplaw01_WordFactors.j0])
    | succ kj4 =>
      have H := HA.out
      clear HA
      simp only [semigrouplaw01_WordFactors.j0] at H
      by_cases c9 : x18_4 = true
      · subst c9
        have H1 : (if (t174.length : Int) = 0 then ((semigrouplaw01_awake.f kj4).bind fun t177 => (some t177)) else (some false)) = some r := by rw [if_pos rfl] at H; exact H
        clear H
        have H := H1
        clear H1
        by_cases c10 : (t174.length : Int) = 0
        · rw [if_pos c10] at H
          have c10b0 : ((t174.length : Int) == 0) = true := beq_iff_eq.mpr c10
          have c10b1 : ((t174.length : Int) != 0) = false := bne_eq_false_iff_eq.mpr c10
          clear c10
          replace H := Option.bind_eq_some_iff.mp H
          obtain ⟨t177, A110, H⟩ := H
          replace H : (some t177) = some r := H
          have A11 := Aside0.mk A110
          clear A110
          obtain rfl := Option.some.inj H
          obtain ⟨Ao12, co12, eo12⟩ := Kd.R_slice HO_5.out
          subst eo12
          go_wp2_with (first | (go_at_call 11; (with_reducible refine (semigrouplaw01_awake.calls kj4  t177 _ A11.out).mono ?_); rintro e w13 ⟨rfl, hb⟩; have n0_ := Aside0.mk (Kd.R_below (by (with_reducible repeat (first | apply Kd.R_alloc | apply Kd.R_drewN | apply Kd.R_drew)); exact HO_5.out) hb); have n1_ := Aside0.mk (below_step (by repeat (first | (with_reducible first | exact HB.out | apply below_alloc | apply pw_below_drewN | apply below_drew1) | exact HB.out)) hb); clear HO_5; clear HB; have HO_5 := n0_; have HB := n1_; clear n0_ n1_; (try clear hb); (try clear hb2); (try clear hk); (try clear hi)))
          go_ret
          exact ⟨by first | rfl | (simp [errW_none, errW_some] <;> rfl) | (simp [*, errW_none, errW_some] <;> rfl), by repeat (first | (with_reducible first | exact HB.out | apply below_alloc | apply pw_below_drewN | apply below_drew1) | exact HB.out)⟩
        · rw [if_neg c10] at H
          have c10b0 : ((t174.length : Int) == 0) = false := beq_eq_false_iff_ne.mpr c10
          have c10b1 : ((t174.length : Int) != 0) = true := bne_iff_ne.mpr c10
          have c10b2 : ¬ (t174 = []) := fun h_ => c10 (by rw [h_]; rfl)
          obtain rfl := Option.some.inj H
          obtain ⟨Ao14, co14, eo14⟩ := Kd.R_slice HO_5.out
          subst eo14
          go_wp2
          go_ret
          exact ⟨by first | rfl | (simp [errW_none, errW_some] <;> rfl) | (simp [*, errW_none, errW_some] <;> rfl), by repeat (first | (with_reducible first | exact HB.out | apply below_alloc | apply pw_below_drewN | apply below_drew1) | exact HB.out)⟩
      · replace c9 := Bool.eq_false_iff.mpr c9
        subst c9
        have H1 : ((semigroupref01_Factors.f kj4 t173 a1).bind fun t178 => ((semigroupref01_Same.f kj4 t174 t178).bind fun t181 => (if t181 = true then ((semigrouplaw01_awake.f kj4).bind fun t182 => (some t182)) else (some false)))) = some r := by rw [if_neg (show ¬ (false = true) by decide)] at H; exact H
        clear H
        have H := H1
        clear H1
        replace H := Option.bind_eq_some_iff.mp H
        obtain ⟨t178, A150, H⟩ := H
        replace H : ((semigroupref01_Same.f kj4 t174 t178).bind fun t181 => (if t181 = true then ((semigrouplaw01_awake.f kj4).bind fun t182 => (some t182)) else (some false))) = some r := H
        have A15 := Aside0.mk A150
        clear A150
        replace H := Option.bind_eq_some_iff.mp H
        obtain ⟨t181, A160, H⟩ := H
        replace H : (if t181 = true then ((semigrouplaw01_awake.f kj4).bind fun t182 => (some t182)) else (some false)) = some r := H
        have A16 := Aside0.mk A160
        clear A160
        by_cases c17 : t181 = true
        · subst c17
          have H1 : ((semigrouplaw01_awake.f kj4).bind fun t182 => (some t182)) = some r := by rw [if_pos rfl] at H; exact H
          clear H
          have H := H1
          clear H1
          replace H := Option.bind_eq_some_iff.mp H
          obtain ⟨t182, A180, H⟩ := H
          replace H : (some t182) = some r := H
          have A18 := Aside0.mk A180
          clear A180
          obtain rfl := Option.some.inj H
          go_wp2_with (first | ((with_reducible refine gate_callee (f := 24) rfl ?_); refine goesL_ (some 28) rfl rfl Try.func24 (by kernel_rfl) rfl #[.string t173, .int .i64 a1] rfl (by (try simp only [List.map_toArray, List.map_cons, List.map_nil]); first | done | rfl | (simp only [List.length_drop, List.length_take]; rfl)) ?_; (with_reducible refine (semigroupref01_Factors.calls kj4 t173 a1 t178 _ A15.out).mono ?_); rintro e w19 ⟨v179, rfl, ho0, hb⟩; refine ⟨_, rfl, ?_⟩; have n0_ := Aside0.mk (Kd.R_elder' (by (with_reducible repeat (first | apply Kd.R_alloc | apply Kd.R_drewN | apply Kd.R_drew)); exact HO_5.out) (Kd.R_base ho0) hb); have n1_ := Aside0.mk (Kd.R_lower (Kd.R_new' ho0 (Kd.R_lt (by (with_reducible repeat (first | apply Kd.R_alloc | apply Kd.R_drewN | apply Kd.R_drew)); exact HO_5.out))) (below_size (by repeat (first | (with_reducible first | exact HB.out | apply below_alloc | apply pw_below_drewN | apply below_drew1) | exact HB.out)))); have n2_ := Aside0.mk (below_step (by repeat (first | (with_reducible first | exact HB.out | apply below_alloc | apply pw_below_drewN | apply below_drew1) | exact HB.out)) hb); clear HO_5; clear HB; have HO_5 := n0_; have HO180 := n1_; have HB := n2_; clear n0_ n1_ n2_; (try clear hb); (try clear hb2); (try clear hk); (try clear hi); (try clear ho0); obtain ⟨Ao20, co20, eo20⟩ := Kd.R_slice HO_5.out; subst eo20; obtain ⟨Ao21, co21, eo21⟩ := Kd.R_slice HO180.out; subst eo21) | ((with_reducible refine gate_callee (f := 23) rfl ?_); refine goesL_ (some 29) rfl rfl Try.func23 (by kernel_rfl) rfl #[.slice Ao20 t174.length co20, .slice Ao21 t178.length co21] rfl (by (try simp only [List.map_toArray, List.map_cons, List.map_nil]); first | done | rfl | (simp only [List.length_drop, List.length_take]; rfl)) ?_; (with_reducible refine (semigroupref01_Same.calls kj4 _ _ t174 _ _ t178 true _ ?side1 ?side2 ?side3 ?side4 A16.out).mono ?_); (case side1 => repeat (first | exact (Kd.R_reads' HO_5.out).2.2 | (with_reducible refine Kd.C_alloc ?_ _) | (with_reducible refine Kd.C_drewN ?_ _) | (with_reducible refine Kd.C_drew ?_))); (case side2 => exact (Kd.R_reads' HO_5.out).2.1); (case side3 => repeat (first | exact (Kd.R_reads' HO180.out).2.2 | (with_reducible refine Kd.C_alloc ?_ _) | (with_reducible refine Kd.C_drewN ?_ _) | (with_reducible refine Kd.C_drew ?_))); (case side4 => exact (Kd.R_reads' HO180.out).2.1); rintro e w' ⟨rfl, ⟨nd, rfl⟩⟩; refine ⟨_, rfl, ?_⟩) | (go_at_call 11; (with_reducible refine (semigrouplaw01_awake.calls kj4  t182 _ A18.out).mono ?_); rintro e w22 ⟨rfl, hb⟩; have n0_ := Aside0.mk (Kd.R_below (by (with_reducible repeat (first | apply Kd.R_alloc | apply Kd.R_drewN | apply Kd.R_drew)); exact HO_5.out) hb); have n1_ := Aside0.mk (Kd.R_below (by (with_reducible repeat (first | apply Kd.R_alloc | apply Kd.R_drewN | apply Kd.R_drew)); exact HO180.out) hb); have n2_ := Aside0.mk (below_step (by repeat (first | (with_reducible first | exact HB.out | apply below_alloc | apply pw_below_drewN | apply below_drew1) | exact HB.out)) hb); clear HO_5; clear HO180; clear HB; have HO_5 := n0_; have HO180 := n1_; have HB := n2_; clear n0_ n1_ n2_; (try clear hb); (try clear hb2); (try clear hk); (try clear hi)))
          go_ret
          exact ⟨by first | rfl | (simp [errW_none, errW_some] <;> rfl) | (simp [*, errW_none, errW_some] <;> rfl), by repeat (first | (with_reducible first | exact HB.out | apply below_alloc | apply pw_below_drewN | apply below_drew1) | exact HB.out)⟩
        · replace c17 := Bool.eq_false_iff.mpr c17
          subst c17
          have H1 : (some false) = some r := by rw [if_neg (show ¬ (false = true) by decide)] at H; exact H
          clear H
          have H := H1
          clear H1
          obtain rfl := Option.some.inj H
          go_wp2_with (first | ((with_reducible refine gate_callee (f := 24) rfl ?_); refine goesL_ (some 28) rfl rfl Try.func24 (by kernel_rfl) rfl #[.string t173, .int .i64 a1] rfl (by (try simp only [List.map_toArray, List.map_cons, List.map_nil]); first | done | rfl | (simp only [List.length_drop, List.length_take]; rfl)) ?_; (with_reducible refine (semigroupref01_Factors.calls kj4 t173 a1 t178 _ A15.out).mono ?_); rintro e w23 ⟨v179, rfl, ho0, hb⟩; refine ⟨_, rfl, ?_⟩; have n0_ := Aside0.mk (Kd.R_elder' (by (with_reducible repeat (first | apply Kd.R_alloc | apply Kd.R_drewN | apply Kd.R_drew)); exact HO_5.out) (Kd.R_base ho0) hb); have n1_ := Aside0.mk (Kd.R_lower (Kd.R_new' ho0 (Kd.R_lt (by (with_reducible repeat (first | apply Kd.R_alloc | apply Kd.R_drewN | apply Kd.R_drew)); exact HO_5.out))) (below_size (by repeat (first | (with_reducible first | exact HB.out | apply below_alloc | apply pw_below_drewN | apply below_drew1) | exact HB.out)))); have n2_ := Aside0.mk (below_step (by repeat (first | (with_reducible first | exact HB.out | apply below_alloc | apply pw_below_drewN | apply below_drew1) | exact HB.out)) hb); clear HO_5; clear HB; have HO_5 := n0_; have HO180 := n1_; have HB := n2_; clear n0_ n1_ n2_; (try clear hb); (try clear hb2); (try clear hk); (try clear hi); (try clear ho0); obtain ⟨Ao24, co24, eo24⟩ := Kd.R_slice HO_5.out; subst eo24; obtain ⟨Ao25, co25, eo25⟩ := Kd.R_slice HO180.out; subst eo25) | ((with_reducible refine gate_callee (f := 23) rfl ?_); refine goesL_ (some 29) rfl rfl Try.func23 (by kernel_rfl) rfl #[.slice Ao24 t174.length co24, .slice Ao25 t178.length co25] rfl (by (try simp only [List.map_toArray, List.map_cons, List.map_nil]); first | done | rfl | (simp only [List.length_drop, List.length_take]; rfl)) ?_; (with_reducible refine (semigroupref01_Same.calls kj4 _ _ t174 _ _ t178 false _ ?side1 ?side2 ?side3 ?side4 A16.out).mono ?_); (case side1 => repeat (first | exact (Kd.R_reads' HO_5.out).2.2 | (with_reducible refine Kd.C_alloc ?_ _) | (with_reducible refine Kd.C_drewN ?_ _) | (with_reducible refine Kd.C_drew ?_))); (case side2 => exact (Kd.R_reads' HO_5.out).2.1); (case side3 => repeat (first | exact (Kd.R_reads' HO180.out).2.2 | (with_reducible refine Kd.C_alloc ?_ _) | (with_reducible refine Kd.C_drewN ?_ _) | (with_reducible refine Kd.C_drew ?_))); (case side4 => exact (Kd.R_reads' HO180.out).2.1); rintro e w' ⟨rfl, ⟨nd, rfl⟩⟩; refine ⟨_, rfl, ?_⟩))
          go_ret
          exact ⟨by first | rfl | (simp [errW_none, errW_some] <;> rfl) | (simp [*, errW_none, errW_some] <;> rfl), by repeat (first | (with_reducible first | exact HB.out | apply below_alloc | apply pw_below_drewN | apply below_drew1) | exact HB.out)⟩

/-- THE ONE PURE STATEMENT of semigrouplaw01_WordFactors: yours. -/
def semigrouplaw01_WordFactors.Pure : Prop := ∀ (a0 : ByteArray) (a1 : Int), a0.size ≤ 140737488351232 → (Lit.int .i64 a1).wf = true → ∃ k, semigrouplaw01_WordFactors.f k a0 a1 = some true
theorem semigrouplaw01_WordFactors.walk (P : semigrouplaw01_WordFactors.Pure) (a0 : ByteArray) (a1 : Int) (w : World) (w0 : a0.size ≤ 140737488351232) (w1 : (Lit.int .i64 a1).wf = true) :
    Calls Try.prog 7 #[.string a0, .int .i64 a1] w fun e w' => e = .returned (.bool true) ∧ Below w.heap.size w w' := by
  obtain ⟨k, h⟩ := P a0 a1 w0 w1
  refine (semigrouplaw01_WordFactors.calls k a0 a1 true w h).mono ?_
  rintro e w' ⟨rfl, hd⟩
  exact ⟨rfl, hd⟩

end Go.Proofs.Ytfjmopdkpcplmab.QWordFactors
