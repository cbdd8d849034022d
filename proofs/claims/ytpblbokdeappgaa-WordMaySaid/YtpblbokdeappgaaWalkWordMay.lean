/- A head that may be comes back out of its word, and every word is that of its head, which may be unless its horizon is above its revision. No condition. -/
import Derived.Test.YtpblbokdeappgaaFs
namespace Go.Proofs.Ytpblbokdeappgaa.WalkWordMay
open Go Go.RowKit Go.Proofs.Ytpblbokdeappgaa.Q Go.Proofs.Ytpblbokdeappgaa.Bits Go.Proofs.Ytpblbokdeappgaa.Fs Go.Proofs.YtpblbokdeappgaaW.PrintWords
set_option linter.unusedVariables false

theorem walk (a b c x : Int) (ha : -9223372036854775808 ≤ a ∧ a ≤ 9223372036854775807) (hb : -9223372036854775808 ≤ b ∧ b ≤ 9223372036854775807) (hc : -9223372036854775808 ≤ c ∧ c ≤ 9223372036854775807)
    (hx : 0 ≤ x ∧ x ≤ 18446744073709551615) (w : World) :
    Calls Try.prog 6 #[.agg #[.int .i64 a, .int .i64 b, .int .i64 c], .int .u64 x] w fun e w' => e = .returned (.bool true) ∧ Below w.heap.size w w' := by
  refine impostlaw12_WordMay.calls 1 a b c x true w ?_
  have hj : impostlaw12_WordMay.j0 1 x true false = some true := by
    have e1 : head (x / 1099511627776) (x / 1048576 % 1048576) (x % 1048576) = x := by unfold head; omega
    simp only [impostlaw12_WordMay.j0, Bool.false_eq_true, if_false, if_true, open_f x (by omega) (by omega), Option.bind_some, head_f, e1]
    by_cases h : x % 1048576 > x / 1048576 % 1048576
    · rw [if_pos h]
    · rw [if_neg h, may_f]
      simp only [Option.bind_some]
      rw [may_true.2 (by omega)]
  unfold impostlaw12_WordMay.f
  rw [awake_true, may_f]
  simp only [Option.bind_some]
  by_cases m : may a b c = true
  · have hm := may_true.1 m
    rw [if_pos m, head_f, head_small m]
    simp only [Option.bind_some]
    rw [open_f _ (by omega) (by omega)]
    simp only [Option.bind_some]
    have e1 : (a * 1099511627776 + b * 1048576 + c) / 1099511627776 = a := by omega
    have e2 : (a * 1099511627776 + b * 1048576 + c) / 1048576 % 1048576 = b := by omega
    have e3 : (a * 1099511627776 + b * 1048576 + c) % 1048576 = c := by omega
    rw [e1, e2, e3]
    simpa using hj
  · rw [if_neg m]
    exact hj
end Go.Proofs.Ytpblbokdeappgaa.WalkWordMay
