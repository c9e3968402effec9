-- Written by pr.py (a program of this proof) for the claim: the functions and their walks.
import Derived.Test.YtfjmopdkpcplmabQWordPartsx0
import Derived.Test.YtfjmopdkpcplmabQWordPartsx1
import Derived.Test.YtfjmopdkpcplmabQWordPartsx2
import Derived.Test.YtfjmopdkpcplmabQWordPartsx3
namespace Go.Proofs.Ytfjmopdkpcplmab.QWordParts
open Go.RowKit Go.Proofs.YtfjmopdkpcplmabW.PrintWords Go.Proofs.YtfjmopdkpcplmabW.PrintLast Go.Proofs.YtfjmopdkpcplmabW.PrintMore
attribute [local go_sem] Go.Proofs.Ytfjmopdkpcplmab.XW.str_gtr Go.Proofs.Ytfjmopdkpcplmab.XW.str_geq Go.Proofs.Ytfjmopdkpcplmab.XW.str_leq
attribute [local go_sem] max2_int min2_int max_two min_two max_three min_three max_four min_four   -- for this text's walks alone
set_option linter.unusedVariables false
set_option linter.unusedSimpArgs false

/-! ### semigrouplaw01_WordParts: function 4 -/
def semigrouplaw01_WordParts.j0 : Nat → ByteArray → ByteArray → ByteArray → Bool → Bool → Bool → Option (Bool)
  | 0, _, _, _, _, _, _ => none
  | k + 1, x0, x1, x5, x6, x7, x34 => if x34 = true then (some false) else ((word_Reverse.f k x0).bind fun t134 => ((word_IsFactor.f k t134 x5).bind fun t135 => (if (t135 == x6) = true then ((word_IsSubword.f k t134 x5).bind fun t136 => (if (t136 == x7) = true then (if x7 = true then ((word_Reverse.f k x5).bind fun t137 => (if t137.toList = x1.toList then ((semigrouplaw01_awake.f k).bind fun t138 => (some t138)) else (some false))) else (if x6 = true then (some false) else ((word_Reverse.f k x5).bind fun t139 => (if t139.toList = x1.toList then ((semigrouplaw01_awake.f k).bind fun t140 => (some t140)) else (some false))))) else (some false))) else (some false))))
def semigrouplaw01_WordParts.f (k : Nat) (a0 : ByteArray) (a1 : ByteArray) : Option (Bool) := (word_Reverse.f k a1).bind fun t128 => ((word_IsFactor.f k a0 a1).bind fun t129 => ((word_IsSubword.f k a0 a1).bind fun t130 => ((semigroupref01_Reverse.f k a1).bind fun t131 => (if t128.toList = t131.toList then ((semigroupref01_IsFactor.f k a0 a1).bind fun t132 => (if (t129 != t132) = true then (semigrouplaw01_WordParts.j0 k a0 a1 t128 t129 t130 true) else ((semigroupref01_IsSubword.f k a0 a1).bind fun t133 => (semigrouplaw01_WordParts.j0 k a0 a1 t128 t129 t130 (t130 != t133))))) else (semigrouplaw01_WordParts.j0 k a0 a1 t128 t129 t130 true)))))
theorem semigrouplaw01_WordParts.mono_l : ∀ k, (∀ y0 y1 y2 y3 y4 y5, LeO (semigrouplaw01_WordParts.j0 k y0 y1 y2 y3 y4 y5) (semigrouplaw01_WordParts.j0 (k + 1) y0 y1 y2 y3 y4 y5))
  | 0 => fun _ _ _ _ _ _ r h => by simp [semigrouplaw01_WordParts.j0] at h
  | k + 1 => by
    have ih0 := semigrouplaw01_WordParts.mono_l k
    · intro y0 y1 y2 y3 y4 y5
      unfold semigrouplaw01_WordParts.j0
      repeat' first
      | (with_reducible exact ih0 _ _ _ _ _ _)
      | (with_reducible exact semigrouplaw01_awake.mono _)
      | (with_reducible exact semigroupref01_IsFactor.mono _ _ _)
      | (with_reducible exact semigroupref01_IsSubword.mono _ _ _)
      | (with_reducible exact semigroupref01_Reverse.mono _ _)
      | (with_reducible exact word_IsFactor.mono _ _ _)
      | (with_reducible exact word_IsSubword.mono _ _ _)
      | (with_reducible exact word_Reverse.mono _ _)
      | (with_reducible exact LeO.refl _)
      | (with_reducible exact LeO.none _)
      | (with_reducible refine LeO.ite ?_ ?_)
      | (with_reducible refine LeO.bind ?_ (fun _ => ?_))
      | exact ih0 _ _ _ _ _ _
      | exact semigrouplaw01_awake.mono _
      | exact semigroupref01_IsFactor.mono _ _ _
      | exact semigroupref01_IsSubword.mono _ _ _
      | exact semigroupref01_Reverse.mono _ _
      | exact word_IsFactor.mono _ _ _
      | exact word_IsSubword.mono _ _ _
      | exact word_Reverse.mono _ _
      | exact LeO.none _
      | refine LeO.ite ?_ ?_
      | refine LeO.bind ?_ (fun _ => ?_)
theorem semigrouplaw01_WordParts.mono : ∀ a0 a1 k, LeO (semigrouplaw01_WordParts.f k a0 a1) (semigrouplaw01_WordParts.f (k + 1) a0 a1) := by
  intro a0 a1 k
  have ih0 := semigrouplaw01_WordParts.mono_l k
  unfold semigrouplaw01_WordParts.f
  repeat' first
      | (with_reducible exact ih0 _ _ _ _ _ _)
      | (with_reducible exact semigrouplaw01_awake.mono _)
      | (with_reducible exact semigroupref01_IsFactor.mono _ _ _)
      | (with_reducible exact semigroupref01_IsSubword.mono _ _ _)
      | (with_reducible exact semigroupref01_Reverse.mono _ _)
      | (with_reducible exact word_IsFactor.mono _ _ _)
      | (with_reducible exact word_IsSubword.mono _ _ _)
      | (with_reducible exact word_Reverse.mono _ _)
      | (with_reducible exact LeO.refl _)
      | (with_reducible exact LeO.none _)
      | (with_reducible refine LeO.ite ?_ ?_)
      | (with_reducible refine LeO.bind ?_ (fun _ => ?_))
      | exact ih0 _ _ _ _ _ _
      | exact semigrouplaw01_awake.mono _
      | exact semigroupref01_IsFactor.mono _ _ _
      | exact semigroupref01_IsSubword.mono _ _ _
      | exact semigroupref01_Reverse.mono _ _
      | exact word_IsFactor.mono _ _ _
      | exact word_IsSubword.mono _ _ _
      | exact word_Reverse.mono _ _
      | exact LeO.none _
      | refine LeO.ite ?_ ?_
      | refine LeO.bind ?_ (fun _ => ?_)
set_option maxHeartbeats 8000000 in
set_option maxRecDepth 100000 in
theorem semigrouplaw01_WordParts.calls (k : Nat) (a0 : ByteArray) (a1 : ByteArray) (r : Bool) (w : World) (h : semigrouplaw01_WordParts.f k a0 a1 = some r) :
    Calls Try.prog 4 #[.string a0, .string a1] w fun e w' => e = .returned (.bool r) ∧ Below w.heap.size w w' := by
  have HB := Aside0.mk (Below.refl w.heap.size w)
  have H : ((word_Reverse.f k a1).bind fun t128 => ((word_IsFactor.f k a0 a1).bind fun t129 => ((word_IsSubword.f k a0 a1).bind fun t130 => ((semigroupref01_Reverse.f k a1).bind fun t131 => (if t128.toList = t131.toList then ((semigroupref01_IsFactor.f k a0 a1).bind fun t132 => (if (t129 != t132) = true then (semigrouplaw01_WordParts.j0 k a0 a1 t128 t129 t130 true) else ((semigroupref01_IsSubword.f k a0 a1).bind fun t133 => (semigrouplaw01_WordParts.j0 k a0 a1 t128 t129 t130 (t130 != t133))))) else (semigrouplaw01_WordParts.j0 k a0 a1 t128 t129 t130 true)))))) = some r := h
  clear h
  replace H := Option.bind_eq_some_iff.mp H
  obtain ⟨t128, A30, H⟩ := H
  replace H : ((word_IsFactor.f k a0 a1).bind fun t129 => ((word_IsSubword.f k a0 a1).bind fun t130 => ((semigroupref01_Reverse.f k a1).bind fun t131 => (if t128.toList = t131.toList then ((semigroupref01_IsFactor.f k a0 a1).bind fun t132 => (if (t129 != t132) = true then (semigrouplaw01_WordParts.j0 k a0 a1 t128 t129 t130 true) else ((semigroupref01_IsSubword.f k a0 a1).bind fun t133 => (semigrouplaw01_WordParts.j0 k a0 a1 t128 t129 t130 (t130 != t133))))) else (semigrouplaw01_WordParts.j0 k a0 a1 t128 t129 t130 true))))) = some r := H
  have A3 := Aside0.mk A30
  clear A30
  replace H := Option.bind_eq_some_iff.mp H
  obtain ⟨t129, A40, H⟩ := H
  replace H : ((word_IsSubword.f k a0 a1).bind fun t130 => ((semigroupref01_Reverse.f k a1).bind fun t131 => (if t128.toList = t131.toList then ((semigroupref01_IsFactor.f k a0 a1).bind fun t132 => (if (t129 != t132) = true then (semigrouplaw01_WordParts.j0 k a0 a1 t128 t129 t130 true) else ((semigroupref01_IsSubword.f k a0 a1).bind fun t133 => (semigrouplaw01_WordParts.j0 k a0 a1 t128 t129 t130 (t130 != t133))))) else (semigrouplaw01_WordParts.j0 k a0 a1 t128 t129 t130 true)))) = some r := H
  have A4 := Aside0.mk A40
  clear A40
  replace H := Option.bind_eq_some_iff.mp H
  obtain ⟨t130, A50, H⟩ := H
  replace H : ((semigroupref01_Reverse.f k a1).bind fun t131 => (if t128.toList = t131.toList then ((semigroupref01_IsFactor.f k a0 a1).bind fun t132 => (if (t129 != t132) = true then (semigrouplaw01_WordParts.j0 k a0 a1 t128 t129 t130 true) else ((semigroupref01_IsSubword.f k a0 a1).bind fun t133 => (semigrouplaw01_WordParts.j0 k a0 a1 t128 t129 t130 (t130 != t133))))) else (semigrouplaw01_WordParts.j0 k a0 a1 t128 t129 t130 true))) = some r := H
  have A5 := Aside0.mk A50
  clear A50
  have HC6 := Aside0.mk H
  clear H
  go_enter Try.func4, Try.ntmps4
  go_upto_region 3 with (first | ((with_reducible refine gate_callee (f := 14) rfl ?_); refine goesL_ (some 10) rfl rfl Try.func14 (by kernel_rfl) rfl #[.string a1] rfl (by (try simp only [List.map_toArray, List.map_cons, List.map_nil]); first | done | rfl | (simp only [List.length_drop, List.length_take]; rfl)) ?_; (with_reducible refine (word_Reverse.calls k a1 t128 _ A3.out).mono ?_); rintro e w7 ⟨rfl, hb⟩; refine ⟨_, rfl, ?_⟩; have n0_ := Aside0.mk (below_step (by repeat (first | (with_reducible first | exact HB.out | apply below_alloc | apply pw_below_drewN | apply below_drew1) | exact HB.out)) hb); clear HB; have HB := n0_; clear n0_; (try clear hb); (try clear hb2); (try clear hk); (try clear hi)) | ((with_reducible refine gate_callee (f := 15) rfl ?_); refine goesL_ (some 13) rfl rfl Try.func15 (by kernel_rfl) rfl #[.string a0, .string a1] rfl (by (try simp only [List.map_toArray, List.map_cons, List.map_nil]); first | done | rfl | (simp only [List.length_drop, List.length_take]; rfl)) ?_; (with_reducible refine (word_IsFactor.calls k a0 a1 t129 _ A4.out).mono ?_); rintro e w8 ⟨rfl, hb⟩; refine ⟨_, rfl, ?_⟩; have n0_ := Aside0.mk (below_step (by repeat (first | (with_reducible first | exact HB.out | apply below_alloc | apply pw_below_drewN | apply below_drew1) | exact HB.out)) hb); clear HB; have HB := n0_; clear n0_; (try clear hb); (try clear hb2); (try clear hk); (try clear hi)) | ((with_reducible refine gate_callee (f := 16) rfl ?_); refine goesL_ (some 16) rfl rfl Try.func16 (by kernel_rfl) rfl #[.string a0, .string a1] rfl (by (try simp only [List.map_toArray, List.map_cons, List.map_nil]); first | done | rfl | (simp only [List.length_drop, List.length_take]; rfl)) ?_; (with_reducible refine (word_IsSubword.calls k a0 a1 t130 _ A5.out).mono ?_); rintro e w' ⟨rfl, ⟨nd, rfl⟩⟩; refine ⟨_, rfl, ?_⟩))
  (try simp only [Act.put, List.setIfInBounds_toArray, List.set_cons_zero, List.set_cons_succ])
  go_cut [34] (fun v34 wc => ∃ (kq : Nat) (x34_5 : Bool), v34 = .bool x34_5 ∧ Aside0 (semigrouplaw01_WordParts.j0 kq a0 a1 t128 t129 t130 x34_5 = some r) ∧ Aside0 (kq ≤ k) ∧ Aside0 (Below w.heap.size w wc))
  case first =>
    have H := HC6.out
    clear HC6
    replace H := Option.bind_eq_some_iff.mp H
    obtain ⟨t131, A90, H⟩ := H
    replace H : (if t128.toList = t131.toList then ((semigroupref01_IsFactor.f k a0 a1).bind fun t132 => (if (t129 != t132) = true then (semigrouplaw01_WordParts.j0 k a0 a1 t128 t129 t130 true) else ((semigroupref01_IsSubword.f k a0 a1).bind fun t133 => (semigrouplaw01_WordParts.j0 k a0 a1 t128 t129 t130 (t130 != t133))))) else (semigrouplaw01_WordParts.j0 k a0 a1 t128 t129 t130 true)) = some r := H
    have A9 := Aside0.mk A90
    clear A90
    by_cases c10 : t128.toList = t131.toList
    · rw [if_pos c10] at H
      have c10b0 : (t128.toList == t131.toList) = true := beq_iff_eq.mpr c10
      have c10b1 : (t128.toList != t131.toList) = false := bne_eq_false_iff_eq.mpr c10
      clear c10
      (first | rw [c10b0] | (simp only [i64_w, i32_w]; rw [c10b0]) | skip)
      replace H := Option.bind_eq_some_iff.mp H
      obtain ⟨t132, A110, H⟩ := H
      replace H : (if (t129 != t132) = true then (semigrouplaw01_WordParts.j0 k a0 a1 t128 t129 t130 true) else ((semigroupref01_IsSubword.f k a0 a1).bind fun t133 => (semigrouplaw01_WordParts.j0 k a0 a1 t128 t129 t130 (t130 != t133)))) = some r := H
      have A11 := Aside0.mk A110
      clear A110
      by_cases c12 : (t129 != t132) = true
      · rw [if_pos c12] at H
        have c12b0 : (t129 != t132) = true := c12
        (try (have c12b1 : decide (t129 = t132) = false := by simpa using c12))
        (try (have c12b2 : (t129 == t132) = false := by simpa using c12))
        (try (have c12b3 : ¬ (t129 = t132) := by simpa using c12))
        clear c12
        have H' := Aside0.mk H
        clear H
        go_wp2_with (first | ((with_reducible refine gate_callee (f := 17) rfl ?_); refine goesL_ (some 19) rfl rfl Try.func17 (by kernel_rfl) rfl #[.string a1] rfl (by (try simp only [List.map_toArray, List.map_cons, List.map_nil]); first | done | rfl | (simp only [List.length_drop, List.length_take]; rfl)) ?_; (with_reducible refine (semigroupref01_Reverse.calls k a1 t131 _ A9.out).mono ?_); rintro e w13 ⟨rfl, hb⟩; refine ⟨_, rfl, ?_⟩; have n0_ := Aside0.mk (below_step (by repeat (first | (with_reducible first | exact HB.out | apply below_alloc | apply pw_below_drewN | apply below_drew1) | exact HB.out)) hb); clear HB; have HB := n0_; clear n0_; (try clear hb); (try clear hb2); (try clear hk); (try clear hi)) | (go_at_call 18; (with_reducible refine (semigroupref01_IsFactor.calls k a0 a1 t132 _ A11.out).mono ?_); rintro e w' ⟨rfl, ⟨nd, rfl⟩⟩))
        go_meet
        case rel => exact ⟨_, (true), (by first | rfl | (simp; done) | (simp [*]; done)), H', ⟨by first | omega | exact Nat.le_refl _⟩, ⟨by repeat (first | (with_reducible first | exact HB.out | apply below_alloc | apply pw_below_drewN | apply below_drew1) | exact HB.out)⟩⟩
      · rw [if_neg c12] at H
        have c12b0 : (t129 != t132) = false := by simpa using c12
        (try (have c12b1 : decide (t129 = t132) = true := by simpa using c12))
        (try (have c12b2 : (t129 == t132) = true := by simpa using c12))
        clear c12
        replace H := Option.bind_eq_some_iff.mp H
        obtain ⟨t133, A140, H⟩ := H
        replace H : (semigrouplaw01_WordParts.j0 k a0 a1 t128 t129 t130 (t130 != t133)) = some r := H
        have A14 := Aside0.mk A140
        clear A140
        have H' := Aside0.mk H
        clear H
        go_wp2_with (first | ((with_reducible refine gate_callee (f := 17) rfl ?_); refine goesL_ (some 19) rfl rfl Try.func17 (by kernel_rfl) rfl #[.string a1] rfl (by (try simp only [List.map_toArray, List.map_cons, List.map_nil]); first | done | rfl | (simp only [List.length_drop, List.length_take]; rfl)) ?_; (with_reducible refine (semigroupref01_Reverse.calls k a1 t131 _ A9.out).mono ?_); rintro e w15 ⟨rfl, hb⟩; refine ⟨_, rfl, ?_⟩; have n0_ := Aside0.mk (below_step (by repeat (first | (with_reducible first | exact HB.out | apply below_alloc | apply pw_below_drewN | apply below_drew1) | exact HB.out)) hb); clear HB; have HB := n0_; clear n0_; (try clear hb); (try clear hb2); (try clear hk); (try clear hi)) | (go_at_call 18; (with_reducible refine (semigroupref01_IsFactor.calls k a0 a1 t132 _ A11.out).mono ?_); rintro e w' ⟨rfl, ⟨nd, rfl⟩⟩) | (go_at_call 19; (with_reducible refine (semigroupref01_IsSubword.calls k a0 a1 t133 _ A14.out).mono ?_); rintro e w' ⟨rfl, ⟨nd, rfl⟩⟩))
        go_meet
        case rel => exact ⟨_, ((t130 != t133)), (by first | rfl | (simp; done) | (simp [*]; done)), H', ⟨by first | omega | exact Nat.le_refl _⟩, ⟨by repeat (first | (with_reducible first | exact HB.out | apply below_alloc | apply pw_below_drewN | apply below_drew1) | exact HB.out)⟩⟩
    · rw [if_neg c10] at H
      have c10b0 : (t128.toList == t131.toList) = false := beq_eq_false_iff_ne.mpr c10
      have c10b1 : (t128.toList != t131.toList) = true := bne_iff_ne.mpr c10
      (first | rw [c10b0] | (simp only [i64_w, i32_w]; rw [c10b0]) | skip)
      have H' := Aside0.mk H
      clear H
      go_wp2_with (first | ((with_reducible refine gate_callee (f := 17) rfl ?_); refine goesL_ (some 19) rfl rfl Try.func17 (by kernel_rfl) rfl #[.string a1] rfl (by (try simp only [List.map_toArray, List.map_cons, List.map_nil]); first | done | rfl | (simp only [List.length_drop, List.length_take]; rfl)) ?_; (with_reducible refine (semigroupref01_Reverse.calls k a1 t131 _ A9.out).mono ?_); rintro e w16 ⟨rfl, hb⟩; refine ⟨_, rfl, ?_⟩; have n0_ := Aside0.mk (below_step (by repeat (first | (with_reducible first | exact HB.out | apply below_alloc | apply pw_below_drewN | apply below_drew1) | exact HB.out)) hb); clear HB; have HB := n0_; clear n0_; (try clear hb); (try clear hb2); (try clear hk); (try clear hi)))
      go_meet
      case rel => exact ⟨_, (true), (by first | rfl | (simp; done) | (simp [*]; done)), H', ⟨by first | omega | exact Nat.le_refl _⟩, ⟨by repeat (first | (with_reducible first | exact HB.out | apply below_alloc | apply pw_below_drewN | apply below_drew1) | exact HB.out)⟩⟩
  case rest =>
    clear HC6
    try clear c1
    try clear p2
    try clear c4
    try clear c10
    try clear c10b0
    try clear c10b1
    try clear c12
    try clear c12b0
    try clear c12b1
    try clear c12b2
    try clear c14
    try clear c15
    try clear c16
    obtain ⟨kq, x34_5, rfl, HA, HJ5, HB⟩ := hcut
    cases kq with
    | zero => exact absurd HA.out (by simp [semigrouplaw01_WordParts.j0])
    | succ kj5 =>
      have H := HA.out
      clear HA
      simp only [semigrouplaw01_WordParts.j0] at H
      by_cases c17 : x34_5 = true
      · subst c17
        have H1 : (some false) = some r := by rw [if_pos rfl] at H; exact H
        clear H
        have H := H1
        clear H1
        obtain rfl := Option.some.inj H
        go_wp2
        go_ret
        exact ⟨by first | rfl | (simp [errW_none, errW_some] <;> rfl) | (simp [*, errW_none, errW_some] <;> rfl), by repeat (first | (with_reducible first | exact HB.out | apply below_alloc | apply pw_below_drewN | apply below_drew1) | exact HB.out)⟩
      · replace c17 := Bool.eq_false_iff.mpr c17
        subst c17
        have H1 : ((word_Reverse.f kj5 a0).bind fun t134 => ((word_IsFactor.f kj5 t134 t128).bind fun t135 => (if (t135 == t129) = true then ((word_IsSubword.f kj5 t134 t128).bind fun t136 => (if (t136 == t130) = true then (if t130 = true then ((word_Reverse.f kj5 t128).bind fun t137 => (if t137.toList = a1.toList then ((semigrouplaw01_awake.f kj5).bind fun t138 => (some t138)) else (some false))) else (if t129 = true then (some false) else ((word_Reverse.f kj5 t128).bind fun t139 => (if t139.toList = a1.toList then ((semigrouplaw01_awake.f kj5).bind fun t140 => (some t140)) else (some false))))) else (some false))) else (some false)))) = some r := by rw [if_neg (show ¬ (false = true) by decide)] at H; exact H
        clear H
        have H := H1
        clear H1
        replace H := Option.bind_eq_some_iff.mp H
        obtain ⟨t134, A180, H⟩ := H
        replace H : ((word_IsFactor.f kj5 t134 t128).bind fun t135 => (if (t135 == t129) = true then ((word_IsSubword.f kj5 t134 t128).bind fun t136 => (if (t136 == t130) = true then (if t130 = true then ((word_Reverse.f kj5 t128).bind fun t137 => (if t137.toList = a1.toList then ((semigrouplaw01_awake.f kj5).bind fun t138 => (some t138)) else (some false))) else (if t129 = true then (some false) else ((word_Reverse.f kj5 t128).bind fun t139 => (if t139.toList = a1.toList then ((semigrouplaw01_awake.f kj5).bind fun t140 => (some t140)) else (some false))))) else (some false))) else (some false))) = some r := H
        have A18 := Aside0.mk A180
        clear A180
        replace H := Option.bind_eq_some_iff.mp H
        obtain ⟨t135, A190, H⟩ := H
        replace H : (if (t135 == t129) = true then ((word_IsSubword.f kj5 t134 t128).bind fun t136 => (if (t136 == t130) = true then (if t130 = true then ((word_Reverse.f kj5 t128).bind fun t137 => (if t137.toList = a1.toList then ((semigrouplaw01_awake.f kj5).bind fun t138 => (some t138)) else (some false))) else (if t129 = true then (some false) else ((word_Reverse.f kj5 t128).bind fun t139 => (if t139.toList = a1.toList then ((semigrouplaw01_awake.f kj5).bind fun t140 => (some t140)) else (some false))))) else (some false))) else (some false)) = some r := H
        have A19 := Aside0.mk A190
        clear A190
        by_cases c20 : (t135 == t129) = true
        · rw [if_pos c20] at H
          have c20b0 : (t135 == t129) = true := c20
          (try (have c20b1 : decide (t135 = t129) = true := by simpa using c20))
          (try (have c20b2 : (t135 == t129) = true := by simpa using c20))
          clear c20
          replace H := Option.bind_eq_some_iff.mp H
          obtain ⟨t136, A210, H⟩ := H
          replace H : (if (t136 == t130) = true then (if t130 = true then ((word_Reverse.f kj5 t128).bind fun t137 => (if t137.toList = a1.toList then ((semigrouplaw01_awake.f kj5).bind fun t138 => (some t138)) else (some false))) else (if t129 = true then (some false) else ((word_Reverse.f kj5 t128).bind fun t139 => (if t139.toList = a1.toList then ((semigrouplaw01_awake.f kj5).bind fun t140 => (some t140)) else (some false))))) else (some false)) = some r := H
          have A21 := Aside0.mk A210
          clear A210
          by_cases c22 : (t136 == t130) = true
          · rw [if_pos c22] at H
            have c22b0 : (t136 == t130) = true := c22
            (try (have c22b1 : decide (t136 = t130) = true := by simpa using c22))
            (try (have c22b2 : (t136 == t130) = true := by simpa using c22))
            clear c22
            by_cases c23 : t130 = true
            · subst c23
              have H1 : ((word_Reverse.f kj5 t128).bind fun t137 => (if t137.toList = a1.toList then ((semigrouplaw01_awake.f kj5).bind fun t138 => (some t138)) else (some false))) = some r := by rw [if_pos rfl] at H; exact H
              clear H
              have H := H1
              clear H1
              replace H := Option.bind_eq_some_iff.mp H
              obtain ⟨t137, A240, H⟩ := H
              replace H : (if t137.toList = a1.toList then ((semigrouplaw01_awake.f kj5).bind fun t138 => (some t138)) else (some false)) = some r := H
              have A24 := Aside0.mk A240
              clear A240
              by_cases c25 : t137.toList = a1.toList
              · rw [if_pos c25] at H
                have c25b0 : (t137.toList == a1.toList) = true := beq_iff_eq.mpr c25
                have c25b1 : (t137.toList != a1.toList) = false := bne_eq_false_iff_eq.mpr c25
                clear c25
                replace H := Option.bind_eq_some_iff.mp H
                obtain ⟨t138, A260, H⟩ := H
                replace H : (some t138) = some r := H
                have A26 := Aside0.mk A260
                clear A260
                obtain rfl := Option.some.inj H
                go_wp2_with (first | ((with_reducible refine gate_callee (f := 14) rfl ?_); refine goesL_ (some 36) rfl rfl Try.func14 (by kernel_rfl) rfl #[.string a0] rfl (by (try simp only [List.map_toArray, List.map_cons, List.map_nil]); first | done | rfl | (simp only [List.length_drop, List.length_take]; rfl)) ?_; (with_reducible refine (word_Reverse.calls kj5 a0 t134 _ A18.out).mono ?_); rintro e w27 ⟨rfl, hb⟩; refine ⟨_, rfl, ?_⟩; have n0_ := Aside0.mk (below_step (by repeat (first | (with_reducible first | exact HB.out | apply below_alloc | apply pw_below_drewN | apply below_drew1) | exact HB.out)) hb); clear HB; have HB := n0_; clear n0_; (try clear hb); (try clear hb2); (try clear hk); (try clear hi)) | ((with_reducible refine gate_callee (f := 15) rfl ?_); refine goesL_ (some 39) rfl rfl Try.func15 (by kernel_rfl) rfl #[.string t134, .string t128] rfl (by (try simp only [List.map_toArray, List.map_cons, List.map_nil]); first | done | rfl | (simp only [List.length_drop, List.length_take]; rfl)) ?_; (with_reducible refine (word_IsFactor.calls kj5 t134 t128 t135 _ A19.out).mono ?_); rintro e w28 ⟨rfl, hb⟩; refine ⟨_, rfl, ?_⟩; have n0_ := Aside0.mk (below_step (by repeat (first | (with_reducible first | exact HB.out | apply below_alloc | apply pw_below_drewN | apply below_drew1) | exact HB.out)) hb); clear HB; have HB := n0_; clear n0_; (try clear hb); (try clear hb2); (try clear hk); (try clear hi)) | (go_at_call 16; (with_reducible refine (word_IsSubword.calls kj5 t134 t128 t136 _ A21.out).mono ?_); rintro e w' ⟨rfl, ⟨nd, rfl⟩⟩) | (go_at_call 14; (with_reducible refine (word_Reverse.calls kj5 t128 t137 _ A24.out).mono ?_); rintro e w29 ⟨rfl, hb⟩; have n0_ := Aside0.mk (below_step (by repeat (first | (with_reducible first | exact HB.out | apply below_alloc | apply pw_below_drewN | apply below_drew1) | exact HB.out)) hb); clear HB; have HB := n0_; clear n0_; (try clear hb); (try clear hb2); (try clear hk); (try clear hi)) | (go_at_call 11; (with_reducible refine (semigrouplaw01_awake.calls kj5  t138 _ A26.out).mono ?_); rintro e w30 ⟨rfl, hb⟩; have n0_ := Aside0.mk (below_step (by repeat (first | (with_reducible first | exact HB.out | apply below_alloc | apply pw_below_drewN | apply below_drew1) | exact HB.out)) hb); clear HB; have HB := n0_; clear n0_; (try clear hb); (try clear hb2); (try clear hk); (try clear hi)))
                go_ret
                exact ⟨by first | rfl | (simp [errW_none, errW_some] <;> rfl) | (simp [*, errW_none, errW_some] <;> rfl), by repeat (first | (with_reducible first | exact HB.out | apply below_alloc | apply pw_below_drewN | apply below_drew1) | exact HB.out)⟩
              · rw [if_neg c25] at H
                have c25b0 : (t137.toList == a1.toList) = false := beq_eq_false_iff_ne.mpr c25
                have c25b1 : (t137.toList != a1.toList) = true := bne_iff_ne.mpr c25
                obtain rfl := Option.some.inj H
                go_wp2_with (first | ((with_reducible refine gate_callee (f := 14) rfl ?_); refine goesL_ (some 36) rfl rfl Try.func14 (by kernel_rfl) rfl #[.string a0] rfl (by (try simp only [List.map_toArray, List.map_cons, List.map_nil]); first | done | rfl | (simp only [List.length_drop, List.length_take]; rfl)) ?_; (with_reducible refine (word_Reverse.calls kj5 a0 t134 _ A18.out).mono ?_); rintro e w31 ⟨rfl, hb⟩; refine ⟨_, rfl, ?_⟩; have n0_ := Aside0.mk (below_step (by repeat (first | (with_reducible first | exact HB.out | apply below_alloc | apply pw_below_drewN | apply below_drew1) | exact HB.out)) hb); clear HB; have HB := n0_; clear n0_; (try clear hb); (try clear hb2); (try clear hk); (try clear hi)) | ((with_reducible refine gate_callee (f := 15) rfl ?_); refine goesL_ (some 39) rfl rfl Try.func15 (by kernel_rfl) rfl #[.string t134, .string t128] rfl (by (try simp only [List.map_toArray, List.map_cons, List.map_nil]); first | done | rfl | (simp only [List.length_drop, List.length_take]; rfl)) ?_; (with_reducible refine (word_IsFactor.calls kj5 t134 t128 t135 _ A19.out).mono ?_); rintro e w32 ⟨rfl, hb⟩; refine ⟨_, rfl, ?_⟩; have n0_ := Aside0.mk (below_step (by repeat (first | (with_reducible first | exact HB.out | apply below_alloc | apply pw_below_drewN | apply below_drew1) | exact HB.out)) hb); clear HB; have HB := n0_; clear n0_; (try clear hb); (try clear hb2); (try clear hk); (try clear hi)) | (go_at_call 16; (with_reducible refine (word_IsSubword.calls kj5 t134 t128 t136 _ A21.out).mono ?_); rintro e w' ⟨rfl, ⟨nd, rfl⟩⟩) | (go_at_call 14; (with_reducible refine (word_Reverse.calls kj5 t128 t137 _ A24.out).mono ?_); rintro e w33 ⟨rfl, hb⟩; have n0_ := Aside0.mk (below_step (by repeat (first | (with_reducible first | exact HB.out | apply below_alloc | apply pw_below_drewN | apply below_drew1) | exact HB.out)) hb); clear HB; have HB := n0_; clear n0_; (try clear hb); (try clear hb2); (try clear hk); (try clear hi)))
                go_ret
                exact ⟨by first | rfl | (simp [errW_none, errW_some] <;> rfl) | (simp [*, errW_none, errW_some] <;> rfl), by repeat (first | (with_reducible first | exact HB.out | apply below_alloc | apply pw_below_drewN | apply below_drew1) | exact HB.out)⟩
            · replace c23 := Bool.eq_false_iff.mpr c23
              subst c23
              have H1 : (if t129 = true then (some false) else ((word_Reverse.f kj5 t128).bind fun t139 => (if t139.toList = a1.toList then ((semigrouplaw01_awake.f kj5).bind fun t140 => (some t140)) else (some false)))) = some r := by rw [if_neg (show ¬ (false = true) by decide)] at H; exact H
              clear H
              have H := H1
              clear H1
              by_cases c34 : t129 = true
              · subst c34
                have H1 : (some false) = some r := by rw [if_pos rfl] at H; exact H
                clear H
                have H := H1
                clear H1
                obtain rfl := Option.some.inj H
                go_wp2_with (first | ((with_reducible refine gate_callee (f := 14) rfl ?_); refine goesL_ (some 36) rfl rfl Try.func14 (by kernel_rfl) rfl #[.string a0] rfl (by (try simp only [List.map_toArray, List.map_cons, List.map_nil]); first | done | rfl | (simp only [List.length_drop, List.length_take]; rfl)) ?_; (with_reducible refine (word_Reverse.calls kj5 a0 t134 _ A18.out).mono ?_); rintro e w35 ⟨rfl, hb⟩; refine ⟨_, rfl, ?_⟩; have n0_ := Aside0.mk (below_step (by repeat (first | (with_reducible first | exact HB.out | apply below_alloc | apply pw_below_drewN | apply below_drew1) | exact HB.out)) hb); clear HB; have HB := n0_; clear n0_; (try clear hb); (try clear hb2); (try clear hk); (try clear hi)) | ((with_reducible refine gate_callee (f := 15) rfl ?_); refine goesL_ (some 39) rfl rfl Try.func15 (by kernel_rfl) rfl #[.string t134, .string t128] rfl (by (try simp only [List.map_toArray, List.map_cons, List.map_nil]); first | done | rfl | (simp only [List.length_drop, List.length_take]; rfl)) ?_; (with_reducible refine (word_IsFactor.calls kj5 t134 t128 t135 _ A19.out).mono ?_); rintro e w36 ⟨rfl, hb⟩; refine ⟨_, rfl, ?_⟩; have n0_ := Aside0.mk (below_step (by repeat (first | (with_reducible first | exact HB.out | apply below_alloc | apply pw_below_drewN | apply below_drew1) | exact HB.out)) hb); clear HB; have HB := n0_; clear n0_; (try clear hb); (try clear hb2); (try clear hk); (try clear hi)) | (go_at_call 16; (with_reducible refine (word_IsSubword.calls kj5 t134 t128 t136 _ A21.out).mono ?_); rintro e w' ⟨rfl, ⟨nd, rfl⟩⟩))
                go_ret
                exact ⟨by first | rfl | (simp [errW_none, errW_some] <;> rfl) | (simp [*, errW_none, errW_some] <;> rfl), by repeat (first | (with_reducible first | exact HB.out | apply below_alloc | apply pw_below_drewN | apply below_drew1) | exact HB.out)⟩
              · replace c34 := Bool.eq_false_iff.mpr c34
                subst c34
                have H1 : ((word_Reverse.f kj5 t128).bind fun t139 => (if t139.toList = a1.toList then ((semigrouplaw01_awake.f kj5).bind fun t140 => (some t140)) else (some false))) = some r := by rw [if_neg (show ¬ (false = true) by decide)] at H; exact H
                clear H
                have H := H1
                clear H1
                replace H := Option.bind_eq_some_iff.mp H
                obtain ⟨t139, A370, H⟩ := H
                replace H : (if t139.toList = a1.toList then ((semigrouplaw01_awake.f kj5).bind fun t140 => (some t140)) else (some false)) = some r := H
                have A37 := Aside0.mk A370
                clear A370
                by_cases c38 : t139.toList = a1.toList
                · rw [if_pos c38] at H
                  have c38b0 : (t139.toList == a1.toList) = true := beq_iff_eq.mpr c38
                  have c38b1 : (t139.toList != a1.toList) = false := bne_eq_false_iff_eq.mpr c38
                  clear c38
                  replace H := Option.bind_eq_some_iff.mp H
                  obtain ⟨t140, A390, H⟩ := H
                  replace H : (some t140) = some r := H
                  have A39 := Aside0.mk A390
                  clear A390
                  obtain rfl := Option.some.inj H
                  go_wp2_with (first | ((with_reducible refine gate_callee (f := 14) rfl ?_); refine goesL_ (some 36) rfl rfl Try.func14 (by kernel_rfl) rfl #[.string a0] rfl (by (try simp only [List.map_toArray, List.map_cons, List.map_nil]); first | done | rfl | (simp only [List.length_drop, List.length_take]; rfl)) ?_; (with_reducible refine (word_Reverse.calls kj5 a0 t134 _ A18.out).mono ?_); rintro e w40 ⟨rfl, hb⟩; refine ⟨_, rfl, ?_⟩; have n0_ := Aside0.mk (below_step (by repeat (first | (with_reducible first | exact HB.out | apply below_alloc | apply pw_below_drewN | apply below_drew1) | exact HB.out)) hb); clear HB; have HB := n0_; clear n0_; (try clear hb); (try clear hb2); (try clear hk); (try clear hi)) | ((with_reducible refine gate_callee (f := 15) rfl ?_); refine goesL_ (some 39) rfl rfl Try.func15 (by kernel_rfl) rfl #[.string t134, .string t128] rfl (by (try simp only [List.map_toArray, List.map_cons, List.map_nil]); first | done | rfl | (simp only [List.length_drop, List.length_take]; rfl)) ?_; (with_reducible refine (word_IsFactor.calls kj5 t134 t128 t135 _ A19.out).mono ?_); rintro e w41 ⟨rfl, hb⟩; refine ⟨_, rfl, ?_⟩; have n0_ := Aside0.mk (below_step (by repeat (first | (with_reducible first | exact HB.out | apply below_alloc | apply pw_below_drewN | apply below_drew1) | exact HB.out)) hb); clear HB; have HB := n0_; clear n0_; (try clear hb); (try clear hb2); (try clear hk); (try clear hi)) | (go_at_call 16; (with_reducible refine (word_IsSubword.calls kj5 t134 t128 t136 _ A21.out).mono ?_); rintro e w' ⟨rfl, ⟨nd, rfl⟩⟩) | (go_at_call 14; (with_reducible refine (word_Reverse.calls kj5 t128 t139 _ A37.out).mono ?_); rintro e w42 ⟨rfl, hb⟩; have n0_ := Aside0.mk (below_step (by repeat (first | (with_reducible first | exact HB.out | apply below_alloc | apply pw_below_drewN | apply below_drew1) | exact HB.out)) hb); clear HB; have HB := n0_; clear n0_; (try clear hb); (try clear hb2); (try clear hk); (try clear hi)) | (go_at_call 11; (with_reducible refine (semigrouplaw01_awake.calls kj5  t140 _ A39.out).mono ?_); rintro e w43 ⟨rfl, hb⟩; have n0_ := Aside0.mk (below_step (by repeat (first | (with_reducible first | exact HB.out | apply below_alloc | apply pw_below_drewN | apply below_drew1) | exact HB.out)) hb); clear HB; have HB := n0_; clear n0_; (try clear hb); (try clear hb2); (try clear hk); (try clear hi)))
                  go_ret
                  exact ⟨by first | rfl | (simp [errW_none, errW_some] <;> rfl) | (simp [*, errW_none, errW_some] <;> rfl), by repeat (first | (with_reducible first | exact HB.out | apply below_alloc | apply pw_below_drewN | apply below_drew1) | exact HB.out)⟩
                · rw [if_neg c38] at H
                  have c38b0 : (t139.toList == a1.toList) = false := beq_eq_false_iff_ne.mpr c38
                  have c38b1 : (t139.toList != a1.toList) = true := bne_iff_ne.mpr c38
                  obtain rfl := Option.some.inj H
                  go_wp2_with (first | ((with_reducible refine gate_callee (f := 14) rfl ?_); refine goesL_ (some 36) rfl rfl Try.func14 (by kernel_rfl) rfl #[.string a0] rfl (by (try simp only [List.map_toArray, List.map_cons, List.map_nil]); first | done | rfl | (simp only [List.length_drop, List.length_take]; rfl)) ?_; (with_reducible refine (word_Reverse.calls kj5 a0 t134 _ A18.out).mono ?_); rintro e w44 ⟨rfl, hb⟩; refine ⟨_, rfl, ?_⟩; have n0_ := Aside0.mk (below_step (by repeat (first | (with_reducible first | exact HB.out | apply below_alloc | apply pw_below_drewN | apply below_drew1) | exact HB.out)) hb); clear HB; have HB := n0_; clear n0_; (try clear hb); (try clear hb2); (try clear hk); (try clear hi)) | ((with_reducible refine gate_callee (f := 15) rfl ?_); refine goesL_ (some 39) rfl rfl Try.func15 (by kernel_rfl) rfl #[.string t134, .string t128] rfl (by (try simp only [List.map_toArray, List.map_cons, List.map_nil]); first | done | rfl | (simp only [List.length_drop, List.length_take]; rfl)) ?_; (with_reducible refine (word_IsFactor.calls kj5 t134 t128 t135 _ A19.out).mono ?_); rintro e w45 ⟨rfl, hb⟩; refine ⟨_, rfl, ?_⟩; have n0_ := Aside0.mk (below_step (by repeat (first | (with_reducible first | exact HB.out | apply below_alloc | apply pw_below_drewN | apply below_drew1) | exact HB.out)) hb); clear HB; have HB := n0_; clear n0_; (try clear hb); (try clear hb2); (try clear hk); (try clear hi)) | (go_at_call 16; (with_reducible refine (word_IsSubword.calls kj5 t134 t128 t136 _ A21.out).mono ?_); rintro e w' ⟨rfl, ⟨nd, rfl⟩⟩) | (go_at_call 14; (with_reducible refine (word_Reverse.calls kj5 t128 t139 _ A37.out).mono ?_); rintro e w46 ⟨rfl, hb⟩; have n0_ := Aside0.mk (below_step (by repeat (first | (with_reducible first | exact HB.out | apply below_alloc | apply pw_below_drewN | apply below_drew1) | exact HB.out)) hb); clear HB; have HB := n0_; clear n0_; (try clear hb); (try clear hb2); (try clear hk); (try clear hi)))
                  go_ret
                  exact ⟨by first | rfl | (simp [errW_none, errW_some] <;> rfl) | (simp [*, errW_none, errW_some] <;> rfl), by repeat (first | (with_reducible first | exact HB.out | apply below_alloc | apply pw_below_drewN | apply below_drew1) | exact HB.out)⟩
          · rw [if_neg c22] at H
            have c22b0 : (t136 == t130) = false := by simpa using c22
            (try (have c22b1 : decide (t136 = t130) = false := by simpa using c22))
            (try (have c22b2 : (t136 == t130) = false := by simpa using c22))
            (try (have c22b3 : ¬ (t136 = t130) := by simpa using c22))
            clear c22
            obtain rfl := Option.some.inj H
            go_wp2_with (first | ((with_reducible refine gate_callee (f := 14) rfl ?_); refine goesL_ (some 36) rfl rfl Try.func14 (by kernel_rfl) rfl #[.string a0] rfl (by (try simp only [List.map_toArray, List.map_cons, List.map_nil]); first | done | rfl | (simp only [List.length_drop, List.length_take]; rfl)) ?_; (with_reducible refine (word_Reverse.calls kj5 a0 t134 _ A18.out).mono ?_); rintro e w47 ⟨rfl, hb⟩; refine ⟨_, rfl, ?_⟩; have n0_ := Aside0.mk (below_step (by repeat (first | (with_reducible first | exact HB.out | apply below_alloc | apply pw_below_drewN | apply below_drew1) | exact HB.out)) hb); clear HB; have HB := n0_; clear n0_; (try clear hb); (try clear hb2); (try clear hk); (try clear hi)) | ((with_reducible refine gate_callee (f := 15) rfl ?_); refine goesL_ (some 39) rfl rfl Try.func15 (by kernel_rfl) rfl #[.string t134, .string t128] rfl (by (try simp only [List.map_toArray, List.map_cons, List.map_nil]); first | done | rfl | (simp only [List.length_drop, List.length_take]; rfl)) ?_; (with_reducible refine (word_IsFactor.calls kj5 t134 t128 t135 _ A19.out).mono ?_); rintro e w48 ⟨rfl, hb⟩; refine ⟨_, rfl, ?_⟩; have n0_ := Aside0.mk (below_step (by repeat (first | (with_reducible first | exact HB.out | apply below_alloc | apply pw_below_drewN | apply below_drew1) | exact HB.out)) hb); clear HB; have HB := n0_; clear n0_; (try clear hb); (try clear hb2); (try clear hk); (try clear hi)) | (go_at_call 16; (with_reducible refine (word_IsSubword.calls kj5 t134 t128 t136 _ A21.out).mono ?_); rintro e w' ⟨rfl, ⟨nd, rfl⟩⟩))
            go_ret
            exact ⟨by first | rfl | (simp [errW_none, errW_some] <;> rfl) | (simp [*, errW_none, errW_some] <;> rfl), by repeat (first | (with_reducible first | exact HB.out | apply below_alloc | apply pw_below_drewN | apply below_drew1) | exact HB.out)⟩
        · rw [if_neg c20] at H
          have c20b0 : (t135 == t129) = false := by simpa using c20
          (try (have c20b1 : decide (t135 = t129) = false := by simpa using c20))
          (try (have c20b2 : (t135 == t129) = false := by simpa using c20))
          (try (have c20b3 : ¬ (t135 = t129) := by simpa using c20))
          clear c20
          obtain rfl := Option.some.inj H
          go_wp2_with (first | ((with_reducible refine gate_callee (f := 14) rfl ?_); refine goesL_ (some 36) rfl rfl Try.func14 (by kernel_rfl) rfl #[.string a0] rfl (by (try simp only [List.map_toArray, List.map_cons, List.map_nil]); first | done | rfl | (simp only [List.length_drop, List.length_take]; rfl)) ?_; (with_reducible refine (word_Reverse.calls kj5 a0 t134 _ A18.out).mono ?_); rintro e w49 ⟨rfl, hb⟩; refine ⟨_, rfl, ?_⟩; have n0_ := Aside0.mk (below_step (by repeat (first | (with_reducible first | exact HB.out | apply below_alloc | apply pw_below_drewN | apply below_drew1) | exact HB.out)) hb); clear HB; have HB := n0_; clear n0_; (try clear hb); (try clear hb2); (try clear hk); (try clear hi)) | ((with_reducible refine gate_callee (f := 15) rfl ?_); refine goesL_ (some 39) rfl rfl Try.func15 (by kernel_rfl) rfl #[.string t134, .string t128] rfl (by (try simp only [List.map_toArray, List.map_cons, List.map_nil]); first | done | rfl | (simp only [List.length_drop, List.length_take]; rfl)) ?_; (with_reducible refine (word_IsFactor.calls kj5 t134 t128 t135 _ A19.out).mono ?_); rintro e w50 ⟨rfl, hb⟩; refine ⟨_, rfl, ?_⟩; have n0_ := Aside0.mk (below_step (by repeat (first | (with_reducible first | exact HB.out | apply below_alloc | apply pw_below_drewN | apply below_drew1) | exact HB.out)) hb); clear HB; have HB := n0_; clear n0_; (try clear hb); (try clear hb2); (try clear hk); (try clear hi)))
          go_ret
          exact ⟨by first | rfl | (simp [errW_none, errW_some] <;> rfl) | (simp [*, errW_none, errW_some] <;> rfl), by repeat (first | (with_reducible first | exact HB.out | apply below_alloc | apply pw_below_drewN | apply below_drew1) | exact HB.out)⟩

/-- THE ONE PURE STATEMENT of semigrouplaw01_WordParts: yours. -/
def semigrouplaw01_WordParts.Pure : Prop := ∀ (a0 : ByteArray) (a1 : ByteArray), a0.size ≤ 140737488351232 → a1.size ≤ 140737488351232 → ∃ k, semigrouplaw01_WordParts.f k a0 a1 = some true
theorem semigrouplaw01_WordParts.walk (P : semigrouplaw01_WordParts.Pure) (a0 : ByteArray) (a1 : ByteArray) (w : World) (w0 : a0.size ≤ 140737488351232) (w1 : a1.size ≤ 140737488351232) :
    Calls Try.prog 4 #[.string a0, .string a1] w fun e w' => e = .returned (.bool true) ∧ Below w.heap.size w w' := by
  obtain ⟨k, h⟩ := P a0 a1 w0 w1
  refine (semigrouplaw01_WordParts.calls k a0 a1 true w h).mono ?_
  rintro e w' ⟨rfl, hd⟩
  exact ⟨rfl, hd⟩

end Go.Proofs.Ytfjmopdkpcplmab.QWordParts
