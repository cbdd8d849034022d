-- Laid by the kit's print tool for this claim's functions, and turned where it fell; Lean checks it.
import Derived.Test.YtpblbokdeappgabQx0
namespace Go.Proofs.Ytpblbokdeappgab.Q
open Go.RowKit Go.Proofs.YtpblbokdeappgabW.PrintWords Go.Proofs.YtpblbokdeappgabW.PrintLast Go.Proofs.YtpblbokdeappgabW.PrintMore
attribute [local go_sem] Go.Proofs.Ytpblbokdeappgab.Str.max2_str Go.Proofs.Ytpblbokdeappgab.Str.min2_str Go.Proofs.Ytpblbokdeappgab.Str.leq_law Go.Proofs.Ytpblbokdeappgab.Str.gtr_law Go.Proofs.Ytpblbokdeappgab.Str.geq_law max2_int min2_int max_two min_two max_three min_three max_four min_four   -- for this text's walks alone
set_option linter.unusedVariables false
set_option linter.unusedSimpArgs false

theorem eqA23 (d : Nat) (w : World) (x0 y0 : ByteArray) (x1 y1 : ByteArray) :
    (Op.equalIn (d + 2) 23 (.agg #[.string x0, .string x1]) (.agg #[.string y0, .string y1])).run Try.prog w = .ok (x0.toList == y0.toList && (x1.toList == y1.toList)) w := by
  refine eqA_of Try.underlying23 (by kernel_rfl) ?_
  refine eqf_cons (by rfl) (by go_simp; rfl) (by go_simp; rfl) (by go_simp) ?_
  exact eqf_last (by rfl) (by go_simp; rfl) (by go_simp; rfl) (by go_simp)
end Go.Proofs.Ytpblbokdeappgab.Q
