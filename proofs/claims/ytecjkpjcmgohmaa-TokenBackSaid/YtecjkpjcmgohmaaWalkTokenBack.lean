/- A token that may be is taken as it was put. No condition. -/
import Derived.Test.YtecjkpjcmgohmaaSt
namespace Go.Proofs.Ytecjkpjcmgohmaa.WalkTokenBack
open Go Go.RowKit Go.Proofs.Ytecjkpjcmgohmaa.Q Go.Proofs.Ytecjkpjcmgohmaa.Sk Go.Proofs.Ytecjkpjcmgohmaa.St Go.Proofs.YtecjkpjcmgohmaaW.PrintWords
set_option linter.unusedVariables false

theorem walk (a b : ByteArray) (n : Int) (o : Bool) (ha : a.size ≤ 9223372036854775807) (hb : b.size ≤ 9223372036854775807) (hn : -9223372036854775808 ≤ n ∧ n ≤ 9223372036854775807) (w : World) :
    Calls Try.prog 5 #[.agg #[.string a, .string b, .int .i64 n, .bool o]] w fun e w' => e = .returned (.bool true) ∧ Below w.heap.size w w' := by
  refine impostlaw09_TokenBack.calls 3 a b n o true w ?_
  unfold impostlaw09_TokenBack.f
  refine Option.bind_eq_some_iff.2 ⟨true, awake_from 0, ?_⟩
  refine Option.bind_eq_some_iff.2 ⟨(a, b, n, o), rfl, ?_⟩
  refine Option.bind_eq_some_iff.2 ⟨_, token_may a b n o hb, ?_⟩
  by_cases h : mayT a b n
  · have z := may_size h
    rw [if_pos (decide_eq_true h)]
    refine Option.bind_eq_some_iff.2 ⟨_, token_put a b n o (by show a.size + b.size + 5 ≤ _; omega) hn, ?_⟩
    refine Option.bind_eq_some_iff.2 ⟨_, take_put 2 o h, ?_⟩
    rw [if_pos rfl, if_pos rfl]
    simp
  · rw [if_neg (by rw [decide_eq_true_iff]; exact h)]
end Go.Proofs.Ytecjkpjcmgohmaa.WalkTokenBack
