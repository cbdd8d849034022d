/- Whether any key and any range may be, whether the range has the key, and whether it is empty, are the document's answers. No condition. -/
import Derived.Test.YtpblbokdeappgabSq
namespace Go.Proofs.Ytpblbokdeappgab.WalkKeyTells
open Go Go.RowKit Go.Proofs.Ytpblbokdeappgab.Q Go.Proofs.Ytpblbokdeappgab.Sp Go.Proofs.Ytpblbokdeappgab.Sq Go.Proofs.YtpblbokdeappgabW.PrintWords
set_option linter.unusedVariables false

theorem walk (a b k : ByteArray) (ha : a.size ≤ 9223372036854775807) (hb : b.size ≤ 9223372036854775807) (hk : k.size ≤ 140737488351232) (w : World) :
    Calls Try.prog 3 #[.agg #[.string a, .string b], .string k] w fun e w' => e = .returned (.bool true) ∧ Below w.heap.size w w' := by
  refine impostlaw04_KeyTells.calls 3 a b k true w ?_
  unfold impostlaw04_KeyTells.f
  refine Option.bind_eq_some_iff.2 ⟨true, awake_from 0, ?_⟩
  rw [if_pos rfl]
  refine Option.bind_eq_some_iff.2 ⟨_, key_may k, Option.bind_eq_some_iff.2 ⟨_, ref_may k, ?_⟩⟩
  rw [if_pos (beq_self_eq_true _)]
  refine Option.bind_eq_some_iff.2 ⟨_, key_mayRange a b hb, Option.bind_eq_some_iff.2 ⟨_, ref_mayRange a b hb, ?_⟩⟩
  rw [if_pos (beq_self_eq_true _)]
  refine Option.bind_eq_some_iff.2 ⟨_, key_in a b k, Option.bind_eq_some_iff.2 ⟨_, ref_in a b k, ?_⟩⟩
  rw [if_pos (beq_self_eq_true _)]
  refine Option.bind_eq_some_iff.2 ⟨_, key_empty a b, Option.bind_eq_some_iff.2 ⟨_, ref_empty a b, ?_⟩⟩
  rw [beq_self_eq_true]
end Go.Proofs.Ytpblbokdeappgab.WalkKeyTells
