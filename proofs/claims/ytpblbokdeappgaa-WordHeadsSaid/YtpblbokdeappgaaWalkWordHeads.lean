/- Any head as a word, any word's head, and whether any head may be, are the document's. No condition. -/
import Derived.Test.YtpblbokdeappgaaFs
namespace Go.Proofs.Ytpblbokdeappgaa.WalkWordHeads
open Go Go.RowKit Go.Proofs.Ytpblbokdeappgaa.Q Go.Proofs.Ytpblbokdeappgaa.Bits Go.Proofs.Ytpblbokdeappgaa.Fs Go.Proofs.YtpblbokdeappgaaW.PrintWords
set_option linter.unusedVariables false

theorem walk (a b c x : Int) (ha : -9223372036854775808 ≤ a ∧ a ≤ 9223372036854775807) (hb : -9223372036854775808 ≤ b ∧ b ≤ 9223372036854775807) (hc : -9223372036854775808 ≤ c ∧ c ≤ 9223372036854775807)
    (hx : 0 ≤ x ∧ x ≤ 18446744073709551615) (w : World) :
    Calls Try.prog 4 #[.agg #[.int .i64 a, .int .i64 b, .int .i64 c], .int .u64 x] w fun e w' => e = .returned (.bool true) ∧ Below w.heap.size w w' := by
  refine impostlaw12_WordHeads.calls a b c x true w ?_
  unfold impostlaw12_WordHeads.f
  rw [awake_true]
  simp only [Option.bind_some, if_true, head_f, ref_head, may_f, ref_may, open_f x (by omega) (by omega), ref_open x (by omega) (by omega)]
  simp
end Go.Proofs.Ytpblbokdeappgaa.WalkWordHeads
