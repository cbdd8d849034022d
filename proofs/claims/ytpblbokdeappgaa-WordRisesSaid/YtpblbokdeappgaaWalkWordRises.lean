/- Of two heads that may be the later one is the higher word, and one word is of one head. No condition. -/
import Derived.Test.YtpblbokdeappgaaFs
namespace Go.Proofs.Ytpblbokdeappgaa.WalkWordRises
open Go Go.RowKit Go.Proofs.Ytpblbokdeappgaa.Q Go.Proofs.Ytpblbokdeappgaa.Bits Go.Proofs.Ytpblbokdeappgaa.Fs Go.Proofs.YtpblbokdeappgaaW.PrintWords
set_option linter.unusedVariables false

/-- Is the first head earlier than the second? -/
def less (a b c x y z : Int) : Bool := decide (a < x ∨ (a = x ∧ (b < y ∨ (b = y ∧ c < z))))

theorem j1_true (k : Nat) (a b c x y z : Int) (m : may a b c = true) (n : may x y z = true) : impostlaw12_WordRises.j1 (k + 1) true (less a b c x y z) a b c x y z = some true := by
  have hm := may_true.1 m
  have hn := may_true.1 n
  simp only [impostlaw12_WordRises.j1, if_true, head_f, Option.bind_some, head_small m, head_small n]
  have e1 : decide (a * 1099511627776 + b * 1048576 + c < x * 1099511627776 + y * 1048576 + z) = less a b c x y z := by
    unfold less
    rw [decide_eq_decide]
    rcases Int.lt_trichotomy a x with h | h | h <;> rcases Int.lt_trichotomy b y with h' | h' | h' <;> omega
  have e2 : (a * 1099511627776 + b * 1048576 + c == x * 1099511627776 + y * 1048576 + z) = (a == x && (b == y && c == z)) := by
    rw [Bool.eq_iff_iff]; simp
    rcases Int.lt_trichotomy a x with h | h | h <;> rcases Int.lt_trichotomy b y with h' | h' | h' <;> omega
  rw [e1, e2]
  simp

theorem j0_true (k : Nat) (a b c x y z : Int) (m : may a b c = true) (n : may x y z = true) : impostlaw12_WordRises.j0 (k + 2) true false a b c x y z = some true := by
  have h := j1_true k a b c x y z m n
  unfold less at h
  simp only [impostlaw12_WordRises.j0, Bool.false_eq_true, if_false]
  by_cases h1 : a < x
  · rw [if_pos h1]; rw [decide_eq_true (by omega)] at h; exact h
  · rw [if_neg h1]
    by_cases h2 : a = x
    · rw [if_pos h2]
      by_cases h3 : b < y
      · rw [if_pos h3]; rw [decide_eq_true (by omega)] at h; exact h
      · rw [if_neg h3]
        by_cases h4 : b = y
        · rw [if_pos h4]
          have e : decide (a < x ∨ (a = x ∧ (b < y ∨ (b = y ∧ c < z)))) = decide (c < z) := by rw [decide_eq_decide]; omega
          rw [e] at h; exact h
        · rw [if_neg h4]; rw [decide_eq_false (by omega)] at h; exact h
    · rw [if_neg h2]; rw [decide_eq_false (by omega)] at h; exact h

theorem walk (a b c x y z : Int) (ha : -9223372036854775808 ≤ a ∧ a ≤ 9223372036854775807) (hb : -9223372036854775808 ≤ b ∧ b ≤ 9223372036854775807) (hc : -9223372036854775808 ≤ c ∧ c ≤ 9223372036854775807)
    (hx : -9223372036854775808 ≤ x ∧ x ≤ 9223372036854775807) (hy : -9223372036854775808 ≤ y ∧ y ≤ 9223372036854775807) (hz : -9223372036854775808 ≤ z ∧ z ≤ 9223372036854775807) (w : World) :
    Calls Try.prog 7 #[.agg #[.int .i64 a, .int .i64 b, .int .i64 c], .agg #[.int .i64 x, .int .i64 y, .int .i64 z]] w fun e w' => e = .returned (.bool true) ∧ Below w.heap.size w w' := by
  refine impostlaw12_WordRises.calls 2 a b c x y z true w ?_
  unfold impostlaw12_WordRises.f
  rw [awake_true, may_f, may_f]
  simp only [Option.bind_some]
  cases m : may a b c
  · simp [impostlaw12_WordRises.j0]
  · cases n : may x y z
    · simp [impostlaw12_WordRises.j0]
    · simpa using j0_true 0 a b c x y z m n
end Go.Proofs.Ytpblbokdeappgaa.WalkWordRises
