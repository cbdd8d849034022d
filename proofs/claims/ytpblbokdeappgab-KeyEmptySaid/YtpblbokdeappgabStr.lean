/- How Go's comparisons of two strings come out of one of them, and max and min of two strings. Over any program. -/
import Derived.Laws.Strings
import Derived.Lib.MinMaxS
namespace Go.Proofs.Ytpblbokdeappgab.Str
open Go

theorem less_eq (a b : List UInt8) : Op.bytesLess a b = decide (a < b) := by rw [Proofs.bytesLess_eq]
theorem leq_eq (a b : List UInt8) : (Op.bytesLess a b || a == b) = !(Op.bytesLess b a) := by
  rw [less_eq, less_eq, Bool.eq_iff_iff]
  simp
  constructor
  · rintro (h | h)
    · exact List.le_of_lt h
    · subst h; exact List.le_refl _
  · intro h
    rcases List.le_iff_lt_or_eq.1 h with h | h
    · exact .inl h
    · exact .inr h

theorem leq_law (t : TypeId) (a b : ByteArray) : binOp .leq t (.string a) (.string b) = pure (.bool (!(Op.bytesLess b.toList a.toList))) := by
  rw [← leq_eq]; simp [binOp, Op.stringOp]
theorem gtr_law (t : TypeId) (a b : ByteArray) : binOp .gtr t (.string a) (.string b) = pure (.bool (Op.bytesLess b.toList a.toList)) := by
  have := leq_eq a.toList b.toList
  rw [show Op.bytesLess b.toList a.toList = !(Op.bytesLess a.toList b.toList || a.toList == b.toList) by rw [this]; simp]
  simp [binOp, Op.stringOp]
theorem geq_law (t : TypeId) (a b : ByteArray) : binOp .geq t (.string a) (.string b) = pure (.bool (!(Op.bytesLess a.toList b.toList))) := by
  simp [binOp, Op.stringOp]
theorem max2_str {P : Program} (w : World) (x y : ByteArray) : (Builtin.max2 (.string x) (.string y)).run P w = .ok (.string (Lib.maxS x y)) w := by
  have h := Lib.run_max_strs (P := P) w #[] 0 x y
  simpa [Builtin.max_] using h
theorem min2_str {P : Program} (w : World) (x y : ByteArray) : (Builtin.min2 (.string x) (.string y)).run P w = .ok (.string (Lib.minS x y)) w := by
  have h := Lib.run_min_strs (P := P) w #[] 0 x y
  simpa [Builtin.min_] using h
end Go.Proofs.Ytpblbokdeappgab.Str
