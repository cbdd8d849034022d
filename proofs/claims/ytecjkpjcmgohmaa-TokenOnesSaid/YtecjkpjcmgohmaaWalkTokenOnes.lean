/- Two tokens that may be have one text just if they are the same. No condition. -/
import Derived.Test.YtecjkpjcmgohmaaSt
namespace Go.Proofs.Ytecjkpjcmgohmaa.WalkTokenOnes
open Go Go.RowKit Go.Proofs.Ytecjkpjcmgohmaa.Q Go.Proofs.Ytecjkpjcmgohmaa.Sk Go.Proofs.Ytecjkpjcmgohmaa.St Go.Proofs.YtecjkpjcmgohmaaW.PrintWords
set_option linter.unusedVariables false

theorem walk (a b : ByteArray) (n : Int) (o : Bool) (c d : ByteArray) (m : Int) (p : Bool) (ha : a.size ≤ 9223372036854775807) (hb : b.size ≤ 9223372036854775807) (hn : -9223372036854775808 ≤ n ∧ n ≤ 9223372036854775807)
    (hc : c.size ≤ 9223372036854775807) (hd : d.size ≤ 9223372036854775807) (hm : -9223372036854775808 ≤ m ∧ m ≤ 9223372036854775807) (w : World) :
    Calls Try.prog 7 #[.agg #[.string a, .string b, .int .i64 n, .bool o], .agg #[.string c, .string d, .int .i64 m, .bool p]] w fun e w' => e = .returned (.bool true) ∧ Below w.heap.size w w' := by
  refine impostlaw09_TokenOnes.calls 3 a b n o c d m p true w ?_
  unfold impostlaw09_TokenOnes.f
  refine Option.bind_eq_some_iff.2 ⟨true, awake_from 0, ?_⟩
  refine Option.bind_eq_some_iff.2 ⟨(a, b, n, o), rfl, Option.bind_eq_some_iff.2 ⟨(c, d, m, p), rfl, ?_⟩⟩
  refine Option.bind_eq_some_iff.2 ⟨_, token_may a b n o hb, ?_⟩
  by_cases h : mayT a b n
  · have z := may_size h
    rw [if_pos (decide_eq_true h)]
    refine Option.bind_eq_some_iff.2 ⟨_, token_may c d m p hd, ?_⟩
    by_cases g : mayT c d m
    · have z' := may_size g
      rw [decide_eq_true g]
      simp only [impostlaw09_TokenOnes.j0, Bool.not_true, Bool.false_eq_true, if_false, if_true]
      refine Option.bind_eq_some_iff.2 ⟨_, token_put a b n o (by show a.size + b.size + 5 ≤ _; omega) hn, ?_⟩
      refine Option.bind_eq_some_iff.2 ⟨_, token_put c d m p (by show c.size + d.size + 5 ≤ _; omega) hm, ?_⟩
      congr 1
      rw [beq_iff_eq, Bool.eq_iff_iff, beq_iff_eq, toL, toL]
      simp only [Bool.and_eq_true, beq_iff_eq, toL]
      constructor
      · intro e
        obtain ⟨rfl, rfl, rfl, rfl⟩ := put_inj h g (ext_list e)
        exact ⟨⟨rfl, rfl⟩, rfl, rfl⟩
      · rintro ⟨⟨e1, e2⟩, e3, e4⟩
        rw [ext_list e1, ext_list e2, e3, e4]
    · rw [decide_eq_false g]
      simp only [impostlaw09_TokenOnes.j0, Bool.not_false, if_true]
  · rw [if_neg (by rw [decide_eq_true_iff]; exact h)]
    simp only [impostlaw09_TokenOnes.j0, if_true]
end Go.Proofs.Ytecjkpjcmgohmaa.WalkTokenOnes
