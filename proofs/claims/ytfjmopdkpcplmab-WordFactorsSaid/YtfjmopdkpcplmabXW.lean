/- More laws for the walks of this seat's texts: '>', '<=' and '>=' of strings, by '<' alone. -/
import Derived.Test.YtfjmopdkpcplmabWMore
namespace Go.Proofs.Ytfjmopdkpcplmab.XW
theorem less_flip : ∀ x y : List UInt8, (!(Op.bytesLess x y || x == y)) = Op.bytesLess y x
  | [], [] => rfl
  | _ :: _, [] => rfl
  | [], _ :: _ => rfl
  | a :: x, b :: y => by
    have ih := less_flip x y
    rw [Bool.eq_iff_iff] at ih ⊢
    simp only [Op.bytesLess, Bool.not_eq_true', Bool.or_eq_false_iff, Bool.or_eq_true, Bool.and_eq_true, Bool.and_eq_false_iff, decide_eq_true_eq, decide_eq_false_iff_not, beq_iff_eq, beq_eq_false_iff_ne, List.cons.injEq, ne_eq, not_and] at ih ⊢
    rw [UInt8.lt_iff_toNat_lt, UInt8.lt_iff_toNat_lt, ← UInt8.toNat_inj, ← UInt8.toNat_inj]
    constructor
    · rintro ⟨⟨h1, h2⟩, h3⟩
      by_cases h : b.toNat < a.toNat
      · exact .inl h
      · have e : a.toNat = b.toNat := by omega
        exact .inr ⟨e.symm, ih.1 ⟨h2.resolve_left (fun n => n e), h3 e⟩⟩
    · rintro (h | ⟨h1, h2⟩)
      · exact ⟨⟨by omega, .inl (by omega)⟩, fun e => by omega⟩
      · exact ⟨⟨by omega, .inr (ih.2 h2).1⟩, fun _ => (ih.2 h2).2⟩
theorem str_gtr (t : TypeId) (a b : ByteArray) : binOp .gtr t (.string a) (.string b) = pure (.bool (Op.bytesLess b.toList a.toList)) := by
  rw [← less_flip]; simp [binOp, Op.stringOp]
theorem str_geq (t : TypeId) (a b : ByteArray) : binOp .geq t (.string a) (.string b) = pure (.bool !(Op.bytesLess a.toList b.toList)) := by simp [binOp, Op.stringOp]
theorem str_leq (t : TypeId) (a b : ByteArray) : binOp .leq t (.string a) (.string b) = pure (.bool !(Op.bytesLess b.toList a.toList)) := by
  rw [← less_flip]; simp [binOp, Op.stringOp]
theorem tmod_one (y : Int) : Int.tmod 1 y = 1 % y := Int.tmod_eq_emod_of_nonneg (by omega)
end Go.Proofs.Ytfjmopdkpcplmab.XW
