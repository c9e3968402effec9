-- Written by pr.py (a program of this proof) for the claim: the functions and their walks.
import Derived.Test.YtfjmopdkpcplmaaQWordSuccessorsx0
import Derived.Test.YtfjmopdkpcplmaaQWordSuccessorsx1
namespace Go.Proofs.Ytfjmopdkpcplmaa.QWordSuccessors
open Go.RowKit Go.Proofs.YtfjmopdkpcplmaaW.PrintWords Go.Proofs.YtfjmopdkpcplmaaW.PrintLast Go.Proofs.YtfjmopdkpcplmaaW.PrintMore
attribute [local go_sem] Go.Proofs.Ytfjmopdkpcplmaa.XW.str_gtr Go.Proofs.Ytfjmopdkpcplmaa.XW.str_geq Go.Proofs.Ytfjmopdkpcplmaa.XW.str_leq
attribute [local go_sem] max2_int min2_int max_two min_two max_three min_three max_four min_four   -- for this text's walks alone
set_option linter.unusedVariables false
set_option linter.unusedSimpArgs false

/-! ### semigrouplaw01_WordSuccessors: function 6 -/
mutual
def semigrouplaw01_WordSuccessors.j0 : Nat → Int → Int → ByteArray → Bool → Option (Bool)
  | 0, _, _, _, _ => none
  | k + 1, x0, x1, x2, x17 => if x17 = true then ((semigrouplaw01_awake.f k).bind fun t113 => (some t113)) else ((word_Unrank.f k x0 x1).bind fun bt114 => ((word_Unrank.f k (wrap64 (x0 + 1)) x1).bind fun bt116 => (if bt114.2 = true then (semigrouplaw01_WordSuccessors.j1 k x1 x2 bt114.1 bt116.1 (!bt116.2)) else (semigrouplaw01_WordSuccessors.j1 k x1 x2 bt114.1 bt116.1 true))))
def semigrouplaw01_WordSuccessors.j1 : Nat → Int → ByteArray → ByteArray → ByteArray → Bool → Option (Bool)
  | 0, _, _, _, _, _ => none
  | k + 1, x1, x2, x7, x9, x37 => if x37 = true then ((semigrouplaw01_awake.f k).bind fun t118 => (some t118)) else ((word_Valid.f k x2 x1).bind fun t119 => (if t119 = true then ((word_Compare.f k x7 x2).bind fun t120 => (if t120 < 0 then ((word_Compare.f k x2 x9).bind fun t121 => ((word_Compare.f k x7 x9).bind fun t122 => (if t122 < 0 then (if t121 < 0 then (some false) else ((semigrouplaw01_awake.f k).bind fun t123 => (some t123))) else (some false)))) else ((word_Compare.f k x7 x9).bind fun t124 => (if t124 < 0 then ((semigrouplaw01_awake.f k).bind fun t125 => (some t125)) else (some false))))) else ((word_Compare.f k x7 x9).bind fun t126 => (if t126 < 0 then ((semigrouplaw01_awake.f k).bind fun t127 => (some t127)) else (some false)))))
end
def semigrouplaw01_WordSuccessors.f (k : Nat) (a0 : Int) (a1 : Int) (a2 : ByteArray) : Option (Bool) := if a0 < 0 then (semigrouplaw01_WordSuccessors.j0 k a0 a1 a2 true) else (semigrouplaw01_WordSuccessors.j0 k a0 a1 a2 (decide (a0 ≥ 4611686018427387904)))
theorem semigrouplaw01_WordSuccessors.mono_l : ∀ k, (∀ y0 y1 y2 y3, LeO (semigrouplaw01_WordSuccessors.j0 k y0 y1 y2 y3) (semigrouplaw01_WordSuccessors.j0 (k + 1) y0 y1 y2 y3)) ∧ (∀ y0 y1 y2 y3 y4, LeO (semigrouplaw01_WordSuccessors.j1 k y0 y1 y2 y3 y4) (semigrouplaw01_WordSuccessors.j1 (k + 1) y0 y1 y2 y3 y4))
  | 0 => ⟨fun _ _ _ _ r h => by simp [semigrouplaw01_WordSuccessors.j0] at h, fun _ _ _ _ _ r h => by simp [semigrouplaw01_WordSuccessors.j1] at h⟩
  | k + 1 => by
    obtain ⟨ih0, ih1⟩ := semigrouplaw01_WordSuccessors.mono_l k
    refine ⟨?_, ?_⟩
    · intro y0 y1 y2 y3
      unfold semigrouplaw01_WordSuccessors.j0
      repeat' first
      | (with_reducible exact ih0 _ _ _ _)
      | (with_reducible exact ih1 _ _ _ _ _)
      | (with_reducible exact semigrouplaw01_awake.mono _)
      | (with_reducible exact word_Compare.mono _ _ _)
      | (with_reducible exact word_Unrank.mono _ _ _)
      | (with_reducible exact word_Valid.mono _ _ _)
      | (with_reducible exact LeO.refl _)
      | (with_reducible exact LeO.none _)
      | (with_reducible refine LeO.ite ?_ ?_)
      | (with_reducible refine LeO.bind ?_ (fun _ => ?_))
      | exact ih0 _ _ _ _
      | exact ih1 _ _ _ _ _
      | exact semigrouplaw01_awake.mono _
      | exact word_Compare.mono _ _ _
      | exact word_Unrank.mono _ _ _
      | exact word_Valid.mono _ _ _
      | exact LeO.none _
      | refine LeO.ite ?_ ?_
      | refine LeO.bind ?_ (fun _ => ?_)
    · intro y0 y1 y2 y3 y4
      unfold semigrouplaw01_WordSuccessors.j1
      repeat' first
      | (with_reducible exact ih0 _ _ _ _)
      | (with_reducible exact ih1 _ _ _ _ _)
      | (with_reducible exact semigrouplaw01_awake.mono _)
      | (with_reducible exact word_Compare.mono _ _ _)
      | (with_reducible exact word_Unrank.mono _ _ _)
      | (with_reducible exact word_Valid.mono _ _ _)
      | (with_reducible exact LeO.refl _)
      | (with_reducible exact LeO.none _)
      | (with_reducible refine LeO.ite ?_ ?_)
      | (with_reducible refine LeO.bind ?_ (fun _ => ?_))
      | exact ih0 _ _ _ _
      | exact ih1 _ _ _ _ _
      | exact semigrouplaw01_awake.mono _
      | exact word_Compare.mono _ _ _
      | exact word_Unrank.mono _ _ _
      | exact word_Valid.mono _ _ _
      | exact LeO.none _
      | refine LeO.ite ?_ ?_
      | refine LeO.bind ?_ (fun _ => ?_)
theorem semigrouplaw01_WordSuccessors.mono : ∀ a0 a1 a2 k, LeO (semigrouplaw01_WordSuccessors.f k a0 a1 a2) (semigrouplaw01_WordSuccessors.f (k + 1) a0 a1 a2) := by
  intro a0 a1 a2 k
  obtain ⟨ih0, ih1⟩ := semigrouplaw01_WordSuccessors.mono_l k
  unfold semigrouplaw01_WordSuccessors.f
  repeat' first
      | (with_reducible exact ih0 _ _ _ _)
      | (with_reducible exact ih1 _ _ _ _ _)
      | (with_reducible exact semigrouplaw01_awake.mono _)
      | (with_reducible exact word_Compare.mono _ _ _)
      | (with_reducible exact word_Unrank.mono _ _ _)
      | (with_reducible exact word_Valid.mono _ _ _)
      | (with_reducible exact LeO.refl _)
      | (with_reducible exact LeO.none _)
      | (with_reducible refine LeO.ite ?_ ?_)
      | (with_reducible refine LeO.bind ?_ (fun _ => ?_))
      | exact ih0 _ _ _ _
      | exact ih1 _ _ _ _ _
      | exact semigrouplaw01_awake.mono _
      | exact word_Compare.mono _ _ _
      | exact word_Unrank.mono _ _ _
      | exact word_Valid.mono _ _ _
      | exact LeO.none _
      | refine LeO.ite ?_ ?_
      | refine LeO.bind ?_ (fun _ => ?_)
set_option maxHeartbeats 8000000 in
set_option maxRecDepth 100000 in
theorem semigrouplaw01_WordSuccessors.calls (k : Nat) (a0 : Int) (a1 : Int) (a2 : ByteArray) (r : Bool) (w : World) (h : semigrouplaw01_WordSuccessors.f k a0 a1 a2 = some r) :
    Calls Try.prog 6 #[.int .i64 a0, .int .i64 a1, .string a2] w fun e w' => e = .returned (.bool r) ∧ Below w.heap.size w w' := by
  have HB := Aside0.mk (Below.refl w.heap.size w)
  have H : (if a0 < 0 then (semigrouplaw01_WordSuccessors.j0 k a0 a1 a2 true) else (semigrouplaw01_WordSuccessors.j0 k a0 a1 a2 (decide (a0 ≥ 4611686018427387904)))) = some r := h
  clear h
  have HC4 := Aside0.mk H
  clear H
  go_enter Try.func6, Try.ntmps6
  go_upto_region 1 with (fail)
  go_cut [17] (fun v17 wc => ∃ (kq : Nat) (x17_3 : Bool), v17 = .bool x17_3 ∧ Aside0 (semigrouplaw01_WordSuccessors.j0 kq a0 a1 a2 x17_3 = some r) ∧ Aside0 (kq ≤ k) ∧ Aside0 (Below w.heap.size w wc))
  case first =>
    have H := HC4.out
    clear HC4
    by_cases c5 : a0 < 0
    · rw [if_pos c5] at H
      have c5b0 : decide (a0 < 0) = true := decide_eq_true c5
      clear c5
      (first | rw [c5b0] | (simp only [i64_w, i32_w]; rw [c5b0]) | skip)
      have H' := Aside0.mk H
      clear H
      go_wp2
      go_meet
      case rel => exact ⟨_, (true), (by first | rfl | (simp; done) | (simp [*]; done)), H', ⟨by first | omega | exact Nat.le_refl _⟩, ⟨by repeat (first | (with_reducible first | exact HB.out | apply below_alloc | apply pw_below_drewN | apply below_drew1) | exact HB.out)⟩⟩
    · rw [if_neg c5] at H
      have c5b0 : decide (a0 < 0) = false := decide_eq_false c5
      clear c5
      (first | rw [c5b0] | (simp only [i64_w, i32_w]; rw [c5b0]) | skip)
      have H' := Aside0.mk H
      clear H
      go_wp2
      go_meet
      case rel => exact ⟨_, (decide (a0 ≥ 4611686018427387904)), (by first | rfl | (simp; done) | (simp [*]; done)), H', ⟨by first | omega | exact Nat.le_refl _⟩, ⟨by repeat (first | (with_reducible first | exact HB.out | apply below_alloc | apply pw_below_drewN | apply below_drew1) | exact HB.out)⟩⟩
  case rest =>
    clear HC4
    try clear p2
    try clear c5
    try clear c5b0
    obtain ⟨kq, x17_3, rfl, HA, HJ3, HB⟩ := hcut
    cases kq with
    | zero => exact absurd HA.out (by simp [semigrouplaw01_WordSuccessors.j0])
    | succ kj3 =>
      have H := HA.out
      clear HA
      simp only [semigrouplaw01_WordSuccessors.j0] at H
      by_cases c6 : x17_3 = true
      · subst c6
        have H1 : ((semigrouplaw01_awake.f kj3).bind fun t113 => (some t113)) = some r := by rw [if_pos rfl] at H; exact H
        clear H
        have H := H1
        clear H1
        replace H := Option.bind_eq_some_iff.mp H
        obtain ⟨t113, A70, H⟩ := H
        replace H : (some t113) = some r := H
        have A7 := Aside0.mk A70
        clear A70
        obtain rfl := Option.some.inj H
        go_wp2_with (first | ((with_reducible refine gate_callee (f := 17) rfl ?_); refine goesL_ (some 18) rfl rfl Try.func17 (by kernel_rfl) rfl #[] rfl (by (try simp only [List.map_toArray, List.map_cons, List.map_nil]); first | done | rfl | (simp only [List.length_drop, List.length_take]; rfl)) ?_; (with_reducible refine (semigrouplaw01_awake.calls kj3  t113 _ A7.out).mono ?_); rintro e w8 ⟨rfl, hb⟩; refine ⟨_, rfl, ?_⟩; have n0_ := Aside0.mk (below_step (by repeat (first | (with_reducible first | exact HB.out | apply below_alloc | apply pw_below_drewN | apply below_drew1) | exact HB.out)) hb); clear HB; have HB := n0_; clear n0_; (try clear hb); (try clear hb2); (try clear hk); (try clear hi)))
        go_ret
        exact ⟨by first | rfl | (simp [errW_none, errW_some] <;> rfl) | (simp [*, errW_none, errW_some] <;> rfl), by repeat (first | (with_reducible first | exact HB.out | apply below_alloc | apply pw_below_drewN | apply below_drew1) | exact HB.out)⟩
      · replace c6 := Bool.eq_false_iff.mpr c6
        subst c6
        have H1 : ((word_Unrank.f kj3 a0 a1).bind fun bt114 => ((word_Unrank.f kj3 (wrap64 (a0 + 1)) a1).bind fun bt116 => (if bt114.2 = true then (semigrouplaw01_WordSuccessors.j1 kj3 a1 a2 bt114.1 bt116.1 (!bt116.2)) else (semigrouplaw01_WordSuccessors.j1 kj3 a1 a2 bt114.1 bt116.1 true)))) = some r := by rw [if_neg (show ¬ (false = true) by decide)] at H; exact H
        clear H
        have H := H1
        clear H1
        replace H := Option.bind_eq_some_iff.mp H
        obtain ⟨⟨t114, t115⟩, A90, H⟩ := H
        replace H : ((word_Unrank.f kj3 (wrap64 (a0 + 1)) a1).bind fun bt116 => (if t115 = true then (semigrouplaw01_WordSuccessors.j1 kj3 a1 a2 t114 bt116.1 (!bt116.2)) else (semigrouplaw01_WordSuccessors.j1 kj3 a1 a2 t114 bt116.1 true))) = some r := H
        have A9 := Aside0.mk A90
        clear A90
        replace H := Option.bind_eq_some_iff.mp H
        obtain ⟨⟨t116, t117⟩, A100, H⟩ := H
        replace H : (if t115 = true then (semigrouplaw01_WordSuccessors.j1 kj3 a1 a2 t114 t116 (!t117)) else (semigrouplaw01_WordSuccessors.j1 kj3 a1 a2 t114 t116 true)) = some r := H
        have A10 := Aside0.mk A100
        clear A100
        have HC11 := Aside0.mk H
        clear H
        go_upto_region 5 with (first | ((with_reducible refine gate_callee (f := 20) rfl ?_); refine goesL_ (some 22) rfl rfl Try.func20 (by kernel_rfl) rfl #[.int .i64 a0, .int .i64 a1] rfl (by (try simp only [List.map_toArray, List.map_cons, List.map_nil]); first | done | rfl | (simp only [List.length_drop, List.length_take]; rfl)) ?_; (with_reducible refine (word_Unrank.calls kj3 a0 a1 t114 t115 _ A9.out).mono ?_); rintro e w12 ⟨rfl, hb⟩; refine ⟨_, rfl, ?_⟩; have n0_ := Aside0.mk (below_step (by repeat (first | (with_reducible first | exact HB.out | apply below_alloc | apply pw_below_drewN | apply below_drew1) | exact HB.out)) hb); clear HB; have HB := n0_; clear n0_; (try clear hb); (try clear hb2); (try clear hk); (try clear hi)) | ((with_reducible refine gate_callee (f := 20) rfl ?_); refine goesL_ (some 29) rfl rfl Try.func20 (by kernel_rfl) rfl #[.int .i64 (wrap64 (a0 + 1)), .int .i64 a1] rfl (by (try simp only [List.map_toArray, List.map_cons, List.map_nil]); first | done | rfl | (simp only [List.length_drop, List.length_take]; rfl)) ?_; (with_reducible refine (word_Unrank.calls kj3 (wrap64 (a0 + 1)) a1 t116 t117 _ A10.out).mono ?_); rintro e w13 ⟨rfl, hb⟩; refine ⟨_, rfl, ?_⟩; have n0_ := Aside0.mk (below_step (by repeat (first | (with_reducible first | exact HB.out | apply below_alloc | apply pw_below_drewN | apply below_drew1) | exact HB.out)) hb); clear HB; have HB := n0_; clear n0_; (try clear hb); (try clear hb2); (try clear hk); (try clear hi)))
        (try simp only [Act.put, List.setIfInBounds_toArray, List.set_cons_zero, List.set_cons_succ])
        go_cut [37] (fun v37 wc => ∃ (kq : Nat) (x37_10 : Bool), v37 = .bool x37_10 ∧ Aside0 (semigrouplaw01_WordSuccessors.j1 kq a1 a2 t114 t116 x37_10 = some r) ∧ Aside0 (kq ≤ kj3) ∧ Aside0 (Below w.heap.size w wc))
        case first =>
          have H := HC11.out
          clear HC11
          by_cases c14 : t115 = true
          · subst c14
            have H1 : (semigrouplaw01_WordSuccessors.j1 kj3 a1 a2 t114 t116 (!t117)) = some r := by rw [if_pos rfl] at H; exact H
            clear H
            have H := H1
            clear H1
            have H' := Aside0.mk H
            clear H
            go_wp2
            go_meet
            case rel => exact ⟨_, (!t117), (by first | rfl | (simp; done) | (simp [*]; done)), H', ⟨by have := HJ3.out; first | omega | exact Nat.le_refl _⟩, ⟨by repeat (first | (with_reducible first | exact HB.out | apply below_alloc | apply pw_below_drewN | apply below_drew1) | exact HB.out)⟩⟩
          · replace c14 := Bool.eq_false_iff.mpr c14
            subst c14
            have H1 : (semigrouplaw01_WordSuccessors.j1 kj3 a1 a2 t114 t116 true) = some r := by rw [if_neg (show ¬ (false = true) by decide)] at H; exact H
            clear H
            have H := H1
            clear H1
            have H' := Aside0.mk H
            clear H
            go_wp2
            go_meet
            case rel => exact ⟨_, (true), (by first | rfl | (simp; done) | (simp [*]; done)), H', ⟨by have := HJ3.out; first | omega | exact Nat.le_refl _⟩, ⟨by repeat (first | (with_reducible first | exact HB.out | apply below_alloc | apply pw_below_drewN | apply below_drew1) | exact HB.out)⟩⟩
        case rest =>
          clear HC11
          try clear c1
          try clear c2
          try clear p2
          try clear c5
          try clear c5b0
          try clear c6
          try clear p6
          try clear c14
          try clear p2
          obtain ⟨kq, x37_10, rfl, HA, HJ10, HB⟩ := hcut
          cases kq with
          | zero => exact absurd HA.out (by simp [semigrouplaw01_WordSuccessors.j1])
          | succ kj10 =>
            have H := HA.out
            clear HA
            simp only [semigrouplaw01_WordSuccessors.j1] at H
            by_cases c15 : x37_10 = true
            · subst c15
              have H1 : ((semigrouplaw01_awake.f kj10).bind fun t118 => (some t118)) = some r := by rw [if_pos rfl] at H; exact H
              clear H
              have H := H1
              clear H1
              replace H := Option.bind_eq_some_iff.mp H
              obtain ⟨t118, A160, H⟩ := H
              replace H : (some t118) = some r := H
              have A16 := Aside0.mk A160
              clear A160
              obtain rfl := Option.some.inj H
              go_wp2_with (first | ((with_reducible refine gate_callee (f := 17) rfl ?_); refine goesL_ (some 38) rfl rfl Try.func17 (by kernel_rfl) rfl #[] rfl (by (try simp only [List.map_toArray, List.map_cons, List.map_nil]); first | done | rfl | (simp only [List.length_drop, List.length_take]; rfl)) ?_; (with_reducible refine (semigrouplaw01_awake.calls kj10  t118 _ A16.out).mono ?_); rintro e w17 ⟨rfl, hb⟩; refine ⟨_, rfl, ?_⟩; have n0_ := Aside0.mk (below_step (by repeat (first | (with_reducible first | exact HB.out | apply below_alloc | apply pw_below_drewN | apply below_drew1) | exact HB.out)) hb); clear HB; have HB := n0_; clear n0_; (try clear hb); (try clear hb2); (try clear hk); (try clear hi)))
              go_ret
              exact ⟨by first | rfl | (simp [errW_none, errW_some] <;> rfl) | (simp [*, errW_none, errW_some] <;> rfl), by repeat (first | (with_reducible first | exact HB.out | apply below_alloc | apply pw_below_drewN | apply below_drew1) | exact HB.out)⟩
            · replace c15 := Bool.eq_false_iff.mpr c15
              subst c15
              have H1 : ((word_Valid.f kj10 a2 a1).bind fun t119 => (if t119 = true then ((word_Compare.f kj10 t114 a2).bind fun t120 => (if t120 < 0 then ((word_Compare.f kj10 a2 t116).bind fun t121 => ((word_Compare.f kj10 t114 t116).bind fun t122 => (if t122 < 0 then (if t121 < 0 then (some false) else ((semigrouplaw01_awake.f kj10).bind fun t123 => (some t123))) else (some false)))) else ((word_Compare.f kj10 t114 t116).bind fun t124 => (if t124 < 0 then ((semigrouplaw01_awake.f kj10).bind fun t125 => (some t125)) else (some false))))) else ((word_Compare.f kj10 t114 t116).bind fun t126 => (if t126 < 0 then ((semigrouplaw01_awake.f kj10).bind fun t127 => (some t127)) else (some false))))) = some r := by rw [if_neg (show ¬ (false = true) by decide)] at H; exact H
              clear H
              have H := H1
              clear H1
              replace H := Option.bind_eq_some_iff.mp H
              obtain ⟨t119, A180, H⟩ := H
              replace H : (if t119 = true then ((word_Compare.f kj10 t114 a2).bind fun t120 => (if t120 < 0 then ((word_Compare.f kj10 a2 t116).bind fun t121 => ((word_Compare.f kj10 t114 t116).bind fun t122 => (if t122 < 0 then (if t121 < 0 then (some false) else ((semigrouplaw01_awake.f kj10).bind fun t123 => (some t123))) else (some false)))) else ((word_Compare.f kj10 t114 t116).bind fun t124 => (if t124 < 0 then ((semigrouplaw01_awake.f kj10).bind fun t125 => (some t125)) else (some false))))) else ((word_Compare.f kj10 t114 t116).bind fun t126 => (if t126 < 0 then ((semigrouplaw01_awake.f kj10).bind fun t127 => (some t127)) else (some false)))) = some r := H
              have A18 := Aside0.mk A180
              clear A180
              by_cases c19 : t119 = true
              · subst c19
                have H1 : ((word_Compare.f kj10 t114 a2).bind fun t120 => (if t120 < 0 then ((word_Compare.f kj10 a2 t116).bind fun t121 => ((word_Compare.f kj10 t114 t116).bind fun t122 => (if t122 < 0 then (if t121 < 0 then (some false) else ((semigrouplaw01_awake.f kj10).bind fun t123 => (some t123))) else (some false)))) else ((word_Compare.f kj10 t114 t116).bind fun t124 => (if t124 < 0 then ((semigrouplaw01_awake.f kj10).bind fun t125 => (some t125)) else (some false))))) = some r := by rw [if_pos rfl] at H; exact H
                clear H
                have H := H1
                clear H1
                replace H := Option.bind_eq_some_iff.mp H
                obtain ⟨t120, A200, H⟩ := H
                replace H : (if t120 < 0 then ((word_Compare.f kj10 a2 t116).bind fun t121 => ((word_Compare.f kj10 t114 t116).bind fun t122 => (if t122 < 0 then (if t121 < 0 then (some false) else ((semigrouplaw01_awake.f kj10).bind fun t123 => (some t123))) else (some false)))) else ((word_Compare.f kj10 t114 t116).bind fun t124 => (if t124 < 0 then ((semigrouplaw01_awake.f kj10).bind fun t125 => (some t125)) else (some false)))) = some r := H
                have A20 := Aside0.mk A200
                clear A200
                by_cases c21 : t120 < 0
                · rw [if_pos c21] at H
                  have c21b0 : decide (t120 < 0) = true := decide_eq_true c21
                  clear c21
                  replace H := Option.bind_eq_some_iff.mp H
                  obtain ⟨t121, A220, H⟩ := H
                  replace H : ((word_Compare.f kj10 t114 t116).bind fun t122 => (if t122 < 0 then (if t121 < 0 then (some false) else ((semigrouplaw01_awake.f kj10).bind fun t123 => (some t123))) else (some false))) = some r := H
                  have A22 := Aside0.mk A220
                  clear A220
                  replace H := Option.bind_eq_some_iff.mp H
                  obtain ⟨t122, A230, H⟩ := H
                  replace H : (if t122 < 0 then (if t121 < 0 then (some false) else ((semigrouplaw01_awake.f kj10).bind fun t123 => (some t123))) else (some false)) = some r := H
                  have A23 := Aside0.mk A230
                  clear A230
                  by_cases c24 : t122 < 0
                  · rw [if_pos c24] at H
                    have c24b0 : decide (t122 < 0) = true := decide_eq_true c24
                    clear c24
                    by_cases c25 : t121 < 0
                    · rw [if_pos c25] at H
                      have c25b0 : decide (t121 < 0) = true := decide_eq_true c25
                      clear c25
                      obtain rfl := Option.some.inj H
                      go_wp2_with (first | ((with_reducible refine gate_callee (f := 15) rfl ?_); refine goesL_ (some 41) rfl rfl Try.func15 (by kernel_rfl) rfl #[.string a2, .int .i64 a1] rfl (by (try simp only [List.map_toArray, List.map_cons, List.map_nil]); first | done | rfl | (simp only [List.length_drop, List.length_take]; rfl)) ?_; (with_reducible refine (word_Valid.calls kj10 a2 a1 true _ A18.out).mono ?_); rintro e w' ⟨rfl, ⟨nd, rfl⟩⟩; refine ⟨_, rfl, ?_⟩) | (go_at_call 18; (with_reducible refine (word_Compare.calls kj10 t114 a2 t120 _ A20.out).mono ?_); rintro e w' ⟨rfl, ⟨nd, rfl⟩⟩) | (go_at_call 18; (with_reducible refine (word_Compare.calls kj10 a2 t116 t121 _ A22.out).mono ?_); rintro e w' ⟨rfl, ⟨nd, rfl⟩⟩) | ((with_reducible refine gate_callee (f := 18) rfl ?_); refine goesL_ (some 56) rfl rfl Try.func18 (by kernel_rfl) rfl #[.string t114, .string t116] rfl (by (try simp only [List.map_toArray, List.map_cons, List.map_nil]); first | done | rfl | (simp only [List.length_drop, List.length_take]; rfl)) ?_; (with_reducible refine (word_Compare.calls kj10 t114 t116 t122 _ A23.out).mono ?_); rintro e w' ⟨rfl, ⟨nd, rfl⟩⟩; refine ⟨_, rfl, ?_⟩))
                      go_ret
                      exact ⟨by first | rfl | (simp [errW_none, errW_some] <;> rfl) | (simp [*, errW_none, errW_some] <;> rfl), by repeat (first | (with_reducible first | exact HB.out | apply below_alloc | apply pw_below_drewN | apply below_drew1) | exact HB.out)⟩
                    · rw [if_neg c25] at H
                      have c25b0 : decide (t121 < 0) = false := decide_eq_false c25
                      clear c25
                      replace H := Option.bind_eq_some_iff.mp H
                      obtain ⟨t123, A260, H⟩ := H
                      replace H : (some t123) = some r := H
                      have A26 := Aside0.mk A260
                      clear A260
                      obtain rfl := Option.some.inj H
                      go_wp2_with (first | ((with_reducible refine gate_callee (f := 15) rfl ?_); refine goesL_ (some 41) rfl rfl Try.func15 (by kernel_rfl) rfl #[.string a2, .int .i64 a1] rfl (by (try simp only [List.map_toArray, List.map_cons, List.map_nil]); first | done | rfl | (simp only [List.length_drop, List.length_take]; rfl)) ?_; (with_reducible refine (word_Valid.calls kj10 a2 a1 true _ A18.out).mono ?_); rintro e w' ⟨rfl, ⟨nd, rfl⟩⟩; refine ⟨_, rfl, ?_⟩) | (go_at_call 18; (with_reducible refine (word_Compare.calls kj10 t114 a2 t120 _ A20.out).mono ?_); rintro e w' ⟨rfl, ⟨nd, rfl⟩⟩) | (go_at_call 18; (with_reducible refine (word_Compare.calls kj10 a2 t116 t121 _ A22.out).mono ?_); rintro e w' ⟨rfl, ⟨nd, rfl⟩⟩) | ((with_reducible refine gate_callee (f := 18) rfl ?_); refine goesL_ (some 56) rfl rfl Try.func18 (by kernel_rfl) rfl #[.string t114, .string t116] rfl (by (try simp only [List.map_toArray, List.map_cons, List.map_nil]); first | done | rfl | (simp only [List.length_drop, List.length_take]; rfl)) ?_; (with_reducible refine (word_Compare.calls kj10 t114 t116 t122 _ A23.out).mono ?_); rintro e w' ⟨rfl, ⟨nd, rfl⟩⟩; refine ⟨_, rfl, ?_⟩) | (go_at_call 17; (with_reducible refine (semigrouplaw01_awake.calls kj10  t123 _ A26.out).mono ?_); rintro e w27 ⟨rfl, hb⟩; have n0_ := Aside0.mk (below_step (by repeat (first | (with_reducible first | exact HB.out | apply below_alloc | apply pw_below_drewN | apply below_drew1) | exact HB.out)) hb); clear HB; have HB := n0_; clear n0_; (try clear hb); (try clear hb2); (try clear hk); (try clear hi)))
                      go_ret
                      exact ⟨by first | rfl | (simp [errW_none, errW_some] <;> rfl) | (simp [*, errW_none, errW_some] <;> rfl), by repeat (first | (with_reducible first | exact HB.out | apply below_alloc | apply pw_below_drewN | apply below_drew1) | exact HB.out)⟩
                  · rw [if_neg c24] at H
                    have c24b0 : decide (t122 < 0) = false := decide_eq_false c24
                    clear c24
                    obtain rfl := Option.some.inj H
                    go_wp2_with (first | ((with_reducible refine gate_callee (f := 15) rfl ?_); refine goesL_ (some 41) rfl rfl Try.func15 (by kernel_rfl) rfl #[.string a2, .int .i64 a1] rfl (by (try simp only [List.map_toArray, List.map_cons, List.map_nil]); first | done | rfl | (simp only [List.length_drop, List.length_take]; rfl)) ?_; (with_reducible refine (word_Valid.calls kj10 a2 a1 true _ A18.out).mono ?_); rintro e w' ⟨rfl, ⟨nd, rfl⟩⟩; refine ⟨_, rfl, ?_⟩) | (go_at_call 18; (with_reducible refine (word_Compare.calls kj10 t114 a2 t120 _ A20.out).mono ?_); rintro e w' ⟨rfl, ⟨nd, rfl⟩⟩) | (go_at_call 18; (with_reducible refine (word_Compare.calls kj10 a2 t116 t121 _ A22.out).mono ?_); rintro e w' ⟨rfl, ⟨nd, rfl⟩⟩) | ((with_reducible refine gate_callee (f := 18) rfl ?_); refine goesL_ (some 56) rfl rfl Try.func18 (by kernel_rfl) rfl #[.string t114, .string t116] rfl (by (try simp only [List.map_toArray, List.map_cons, List.map_nil]); first | done | rfl | (simp only [List.length_drop, List.length_take]; rfl)) ?_; (with_reducible refine (word_Compare.calls kj10 t114 t116 t122 _ A23.out).mono ?_); rintro e w' ⟨rfl, ⟨nd, rfl⟩⟩; refine ⟨_, rfl, ?_⟩))
                    go_ret
                    exact ⟨by first | rfl | (simp [errW_none, errW_some] <;> rfl) | (simp [*, errW_none, errW_some] <;> rfl), by repeat (first | (with_reducible first | exact HB.out | apply below_alloc | apply pw_below_drewN | apply below_drew1) | exact HB.out)⟩
                · rw [if_neg c21] at H
                  have c21b0 : decide (t120 < 0) = false := decide_eq_false c21
                  clear c21
                  replace H := Option.bind_eq_some_iff.mp H
                  obtain ⟨t124, A280, H⟩ := H
                  replace H : (if t124 < 0 then ((semigrouplaw01_awake.f kj10).bind fun t125 => (some t125)) else (some false)) = some r := H
                  have A28 := Aside0.mk A280
                  clear A280
                  by_cases c29 : t124 < 0
                  · rw [if_pos c29] at H
                    have c29b0 : decide (t124 < 0) = true := decide_eq_true c29
                    clear c29
                    replace H := Option.bind_eq_some_iff.mp H
                    obtain ⟨t125, A300, H⟩ := H
                    replace H : (some t125) = some r := H
                    have A30 := Aside0.mk A300
                    clear A300
                    obtain rfl := Option.some.inj H
                    go_wp2_with (first | ((with_reducible refine gate_callee (f := 15) rfl ?_); refine goesL_ (some 41) rfl rfl Try.func15 (by kernel_rfl) rfl #[.string a2, .int .i64 a1] rfl (by (try simp only [List.map_toArray, List.map_cons, List.map_nil]); first | done | rfl | (simp only [List.length_drop, List.length_take]; rfl)) ?_; (with_reducible refine (word_Valid.calls kj10 a2 a1 true _ A18.out).mono ?_); rintro e w' ⟨rfl, ⟨nd, rfl⟩⟩; refine ⟨_, rfl, ?_⟩) | (go_at_call 18; (with_reducible refine (word_Compare.calls kj10 t114 a2 t120 _ A20.out).mono ?_); rintro e w' ⟨rfl, ⟨nd, rfl⟩⟩) | ((with_reducible refine gate_callee (f := 18) rfl ?_); refine goesL_ (some 56) rfl rfl Try.func18 (by kernel_rfl) rfl #[.string t114, .string t116] rfl (by (try simp only [List.map_toArray, List.map_cons, List.map_nil]); first | done | rfl | (simp only [List.length_drop, List.length_take]; rfl)) ?_; (with_reducible refine (word_Compare.calls kj10 t114 t116 t124 _ A28.out).mono ?_); rintro e w' ⟨rfl, ⟨nd, rfl⟩⟩; refine ⟨_, rfl, ?_⟩) | (go_at_call 17; (with_reducible refine (semigrouplaw01_awake.calls kj10  t125 _ A30.out).mono ?_); rintro e w31 ⟨rfl, hb⟩; have n0_ := Aside0.mk (below_step (by repeat (first | (with_reducible first | exact HB.out | apply below_alloc | apply pw_below_drewN | apply below_drew1) | exact HB.out)) hb); clear HB; have HB := n0_; clear n0_; (try clear hb); (try clear hb2); (try clear hk); (try clear hi)))
                    go_ret
                    exact ⟨by first | rfl | (simp [errW_none, errW_some] <;> rfl) | (simp [*, errW_none, errW_some] <;> rfl), by repeat (first | (with_reducible first | exact HB.out | apply below_alloc | apply pw_below_drewN | apply below_drew1) | exact HB.out)⟩
                  · rw [if_neg c29] at H
                    have c29b0 : decide (t124 < 0) = false := decide_eq_false c29
                    clear c29
                    obtain rfl := Option.some.inj H
                    go_wp2_with (first | ((with_reducible refine gate_callee (f := 15) rfl ?_); refine goesL_ (some 41) rfl rfl Try.func15 (by kernel_rfl) rfl #[.string a2, .int .i64 a1] rfl (by (try simp only [List.map_toArray, List.map_cons, List.map_nil]); first | done | rfl | (simp only [List.length_drop, List.length_take]; rfl)) ?_; (with_reducible refine (word_Valid.calls kj10 a2 a1 true _ A18.out).mono ?_); rintro e w' ⟨rfl, ⟨nd, rfl⟩⟩; refine ⟨_, rfl, ?_⟩) | (go_at_call 18; (with_reducible refine (word_Compare.calls kj10 t114 a2 t120 _ A20.out).mono ?_); rintro e w' ⟨rfl, ⟨nd, rfl⟩⟩) | ((with_reducible refine gate_callee (f := 18) rfl ?_); refine goesL_ (some 56) rfl rfl Try.func18 (by kernel_rfl) rfl #[.string t114, .string t116] rfl (by (try simp only [List.map_toArray, List.map_cons, List.map_nil]); first | done | rfl | (simp only [List.length_drop, List.length_take]; rfl)) ?_; (with_reducible refine (word_Compare.calls kj10 t114 t116 t124 _ A28.out).mono ?_); rintro e w' ⟨rfl, ⟨nd, rfl⟩⟩; refine ⟨_, rfl, ?_⟩))
                    go_ret
                    exact ⟨by first | rfl | (simp [errW_none, errW_some] <;> rfl) | (simp [*, errW_none, errW_some] <;> rfl), by repeat (first | (with_reducible first | exact HB.out | apply below_alloc | apply pw_below_drewN | apply below_drew1) | exact HB.out)⟩
              · replace c19 := Bool.eq_false_iff.mpr c19
                subst c19
                have H1 : ((word_Compare.f kj10 t114 t116).bind fun t126 => (if t126 < 0 then ((semigrouplaw01_awake.f kj10).bind fun t127 => (some t127)) else (some false))) = some r := by rw [if_neg (show ¬ (false = true) by decide)] at H; exact H
                clear H
                have H := H1
                clear H1
                replace H := Option.bind_eq_some_iff.mp H
                obtain ⟨t126, A320, H⟩ := H
                replace H : (if t126 < 0 then ((semigrouplaw01_awake.f kj10).bind fun t127 => (some t127)) else (some false)) = some r := H
                have A32 := Aside0.mk A320
                clear A320
                by_cases c33 : t126 < 0
                · rw [if_pos c33] at H
                  have c33b0 : decide (t126 < 0) = true := decide_eq_true c33
                  clear c33
                  replace H := Option.bind_eq_some_iff.mp H
                  obtain ⟨t127, A340, H⟩ := H
                  replace H : (some t127) = some r := H
                  have A34 := Aside0.mk A340
                  clear A340
                  obtain rfl := Option.some.inj H
                  go_wp2_with (first | ((with_reducible refine gate_callee (f := 15) rfl ?_); refine goesL_ (some 41) rfl rfl Try.func15 (by kernel_rfl) rfl #[.string a2, .int .i64 a1] rfl (by (try simp only [List.map_toArray, List.map_cons, List.map_nil]); first | done | rfl | (simp only [List.length_drop, List.length_take]; rfl)) ?_; (with_reducible refine (word_Valid.calls kj10 a2 a1 false _ A18.out).mono ?_); rintro e w' ⟨rfl, ⟨nd, rfl⟩⟩; refine ⟨_, rfl, ?_⟩) | ((with_reducible refine gate_callee (f := 18) rfl ?_); refine goesL_ (some 56) rfl rfl Try.func18 (by kernel_rfl) rfl #[.string t114, .string t116] rfl (by (try simp only [List.map_toArray, List.map_cons, List.map_nil]); first | done | rfl | (simp only [List.length_drop, List.length_take]; rfl)) ?_; (with_reducible refine (word_Compare.calls kj10 t114 t116 t126 _ A32.out).mono ?_); rintro e w' ⟨rfl, ⟨nd, rfl⟩⟩; refine ⟨_, rfl, ?_⟩) | (go_at_call 17; (with_reducible refine (semigrouplaw01_awake.calls kj10  t127 _ A34.out).mono ?_); rintro e w35 ⟨rfl, hb⟩; have n0_ := Aside0.mk (below_step (by repeat (first | (with_reducible first | exact HB.out | apply below_alloc | apply pw_below_drewN | apply below_drew1) | exact HB.out)) hb); clear HB; have HB := n0_; clear n0_; (try clear hb); (try clear hb2); (try clear hk); (try clear hi)))
                  go_ret
                  exact ⟨by first | rfl | (simp [errW_none, errW_some] <;> rfl) | (simp [*, errW_none, errW_some] <;> rfl), by repeat (first | (with_reducible first | exact HB.out | apply below_alloc | apply pw_below_drewN | apply below_drew1) | exact HB.out)⟩
                · rw [if_neg c33] at H
                  have c33b0 : decide (t126 < 0) = false := decide_eq_false c33
                  clear c33
                  obtain rfl := Option.some.inj H
                  go_wp2_with (first | ((with_reducible refine gate_callee (f := 15) rfl ?_); refine goesL_ (some 41) rfl rfl Try.func15 (by kernel_rfl) rfl #[.string a2, .int .i64 a1] rfl (by (try simp only [List.map_toArray, List.map_cons, List.map_nil]); first | done | rfl | (simp only [List.length_drop, List.length_take]; rfl)) ?_; (with_reducible refine (word_Valid.calls kj10 a2 a1 false _ A18.out).mono ?_); rintro e w' ⟨rfl, ⟨nd, rfl⟩⟩; refine ⟨_, rfl, ?_⟩) | ((with_reducible refine gate_callee (f := 18) rfl ?_); refine goesL_ (some 56) rfl rfl Try.func18 (by kernel_rfl) rfl #[.string t114, .string t116] rfl (by (try simp only [List.map_toArray, List.map_cons, List.map_nil]); first | done | rfl | (simp only [List.length_drop, List.length_take]; rfl)) ?_; (with_reducible refine (word_Compare.calls kj10 t114 t116 t126 _ A32.out).mono ?_); rintro e w' ⟨rfl, ⟨nd, rfl⟩⟩; refine ⟨_, rfl, ?_⟩))
                  go_ret
                  exact ⟨by first | rfl | (simp [errW_none, errW_some] <;> rfl) | (simp [*, errW_none, errW_some] <;> rfl), by repeat (first | (with_reducible first | exact HB.out | apply below_alloc | apply pw_below_drewN | apply below_drew1) | exact HB.out)⟩

/-- THE ONE PURE STATEMENT of semigrouplaw01_WordSuccessors: yours. -/
def semigrouplaw01_WordSuccessors.Pure : Prop := ∀ (a0 : Int) (a1 : Int) (a2 : ByteArray), (Lit.int .i64 a0).wf = true → (Lit.int .i64 a1).wf = true → a2.size ≤ 140737488351232 → ∃ k, semigrouplaw01_WordSuccessors.f k a0 a1 a2 = some true
theorem semigrouplaw01_WordSuccessors.walk (P : semigrouplaw01_WordSuccessors.Pure) (a0 : Int) (a1 : Int) (a2 : ByteArray) (w : World) (w0 : (Lit.int .i64 a0).wf = true) (w1 : (Lit.int .i64 a1).wf = true) (w2 : a2.size ≤ 140737488351232) :
    Calls Try.prog 6 #[.int .i64 a0, .int .i64 a1, .string a2] w fun e w' => e = .returned (.bool true) ∧ Below w.heap.size w w' := by
  obtain ⟨k, h⟩ := P a0 a1 a2 w0 w1 w2
  refine (semigrouplaw01_WordSuccessors.calls k a0 a1 a2 true w h).mono ?_
  rintro e w' ⟨rfl, hd⟩
  exact ⟨rfl, hd⟩

end Go.Proofs.Ytfjmopdkpcplmaa.QWordSuccessors
