/- What two ranges have in common has just the keys that both have, whichever is first; where they have nothing in common neither has a key of the other. No condition. -/
import Derived.Test.YtpblbokdeappgabSq
namespace Go.Proofs.Ytpblbokdeappgab.WalkKeyMeet
open Go Go.RowKit Go.Proofs.Ytpblbokdeappgab.Q Go.Proofs.Ytpblbokdeappgab.Str Go.Proofs.Ytpblbokdeappgab.Sp Go.Proofs.Ytpblbokdeappgab.Sq Go.Proofs.Ytpblbokdeappgab.Lists Go.Proofs.YtpblbokdeappgabW.PrintWords
set_option linter.unusedVariables false

theorem beq_two (a b : ByteArray) : (a.toList == a.toList && (b.toList == b.toList)) = true := by simp

theorem walk (a b c d k : ByteArray) (ha : a.size ≤ 9223372036854775807) (hb : b.size ≤ 9223372036854775807) (hc : c.size ≤ 9223372036854775807) (hd : d.size ≤ 9223372036854775807) (hk : k.size ≤ 140737488351232) (w : World) :
    Calls Try.prog 5 #[.agg #[.string a, .string b], .agg #[.string c, .string d], .string k] w fun e w' => e = .returned (.bool true) ∧ Below w.heap.size w w' := by
  refine impostlaw04_KeyMeet.calls 3 a b c d k true w ?_
  have hm := meet_in a.data.toList b.data.toList c.data.toList d.data.toList k.data.toList
  have hm1 := key_meet 2 a b c d hb hd
  have hm2 := key_meet 2 c d a b hd hb
  rw [from_comm c.data.toList a.data.toList, to_comm d.data.toList b.data.toList] at hm2
  have hki := fun x y => key_in x y k
  unfold impostlaw04_KeyMeet.f
  refine Option.bind_eq_some_iff.2 ⟨true, awake_from 0, ?_⟩
  refine Option.bind_eq_some_iff.2 ⟨_, hm1, Option.bind_eq_some_iff.2 ⟨_, hm2, ?_⟩⟩
  have he := fun e => empty_in (k := k.data.toList) (a := meetFrom a.data.toList c.data.toList) (b := meetTo b.data.toList d.data.toList) e
  generalize meetFrom a.data.toList c.data.toList = f at *
  generalize meetTo b.data.toList d.data.toList = t at *
  by_cases h : emptyP f t
  · rw [if_pos h]
    have hn : ¬ (inP a.data.toList b.data.toList k.data.toList ∧ inP c.data.toList d.data.toList k.data.toList) := fun h' => he h (hm.2 h')
    refine Option.bind_eq_some_iff.2 ⟨_, hki a b, ?_⟩
    by_cases h1 : inP a.data.toList b.data.toList k.data.toList
    · rw [if_pos (decide_eq_true h1)]
      refine Option.bind_eq_some_iff.2 ⟨_, hki c d, ?_⟩
      dsimp only
      rw [if_pos rfl, if_pos (beq_self_eq_true _), if_pos (beq_two _ _), if_neg (by simp), decide_eq_false (fun h2 => hn ⟨h1, h2⟩)]
      rfl
    · rw [if_neg (by rw [decide_eq_true_iff]; exact h1)]
      dsimp only
      rw [if_pos rfl, if_pos (beq_self_eq_true _), if_pos (beq_two _ _), if_neg (by simp)]
      rfl
  · rw [if_neg h]
    have e1 := hki (bytesArr f) (bytesArr t)
    rw [bytesArr_list, bytesArr_list] at e1
    refine Option.bind_eq_some_iff.2 ⟨_, hki a b, ?_⟩
    by_cases h1 : inP a.data.toList b.data.toList k.data.toList
    · rw [if_pos (decide_eq_true h1)]
      refine Option.bind_eq_some_iff.2 ⟨_, hki c d, ?_⟩
      dsimp only
      rw [if_pos rfl, if_pos (beq_self_eq_true _), if_pos (beq_two _ _), if_pos rfl]
      refine Option.bind_eq_some_iff.2 ⟨_, e1, ?_⟩
      rw [if_pos]
      rw [beq_iff_eq, decide_eq_decide, hm]
      exact ⟨fun x => x.2, fun x => ⟨h1, x⟩⟩
    · rw [if_neg (by rw [decide_eq_true_iff]; exact h1)]
      dsimp only
      rw [if_pos rfl, if_pos (beq_self_eq_true _), if_pos (beq_two _ _), if_pos rfl]
      refine Option.bind_eq_some_iff.2 ⟨_, e1, ?_⟩
      rw [if_pos]
      rw [beq_iff_eq, decide_eq_false_iff_not, hm]
      exact fun x => h1 x.1
end Go.Proofs.Ytpblbokdeappgab.WalkKeyMeet
