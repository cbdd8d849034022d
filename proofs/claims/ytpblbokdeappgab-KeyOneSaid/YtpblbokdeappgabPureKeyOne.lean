/- The range of one key has just that key, it may be if the key may, and it is not empty. No condition. -/
import Derived.Test.YtpblbokdeappgabSq
namespace Go.Proofs.Ytpblbokdeappgab.Pure
open Go Go.RowKit Go.Proofs.Ytpblbokdeappgab.Q Go.Proofs.Ytpblbokdeappgab.Str Go.Proofs.Ytpblbokdeappgab.Sp Go.Proofs.Ytpblbokdeappgab.Sq Go.Proofs.Ytpblbokdeappgab.Lists Go.Proofs.YtpblbokdeappgabW.PrintWords Go.Proofs.YtpblbokdeappgabW.PrintLast

theorem KeyOne : impostlaw04_KeyOne.Pure := by
  intro k x hk hx
  refine ⟨3, ?_⟩
  have hs : (k ++ (⟨#[0]⟩ : ByteArray)).size = k.size + 1 := by rw [ByteArray.size_append]; rfl
  have hl := one_list k
  have hz : lastZ (k ++ (⟨#[0]⟩ : ByteArray)) := by
    unfold lastZ
    rw [hs, hl]
    have e : k.size + 1 - 1 = k.data.toList.length := by rw [← size_list]; omega
    rw [e, List.getD, List.getElem?_append_right (Nat.le_refl _)]
    simp
  unfold impostlaw04_KeyOne.f
  refine Option.bind_eq_some_iff.2 ⟨true, awake_from 0, Option.bind_eq_some_iff.2 ⟨_, key_one k hk, ?_⟩⟩
  rw [if_pos rfl]
  generalize k ++ (⟨#[0]⟩ : ByteArray) = t at *
  have hf : key_Empty.f k t = some false := by
    rw [key_empty, hl]; congr 1; rw [decide_eq_false_iff_not]; exact one_full _
  refine Option.bind_eq_some_iff.2 ⟨true, ?_, ?_⟩
  · rw [key_in, hl]; congr 1; rw [decide_eq_true_iff, one_in]
  rw [if_pos rfl]
  refine Option.bind_eq_some_iff.2 ⟨_, key_in k t x, ?_⟩
  rw [hl, if_pos]
  · refine Option.bind_eq_some_iff.2 ⟨_, key_may k, ?_⟩
    by_cases h : 1 ≤ k.size ∧ k.size ≤ 8
    · rw [if_pos (decide_eq_true h)]
      refine Option.bind_eq_some_iff.2 ⟨true, ?_, ?_⟩
      · rw [key_mayRange k t (by omega)]; congr 1; rw [decide_eq_true_iff]
        refine ⟨by rw [hl]; exact one_full _, h.2, ?_⟩
        by_cases h8 : k.size = 8
        · exact .inr ⟨by omega, hz⟩
        · exact .inl (by omega)
      · rw [if_pos rfl]
        exact Option.bind_eq_some_iff.2 ⟨false, hf, rfl⟩
    · rw [if_neg (by rw [decide_eq_true_iff]; exact h)]
      exact Option.bind_eq_some_iff.2 ⟨false, hf, rfl⟩
  · rw [beq_iff_eq, Bool.eq_iff_iff, decide_eq_true_iff, one_in, beq_iff_eq, toL, toL]

end Go.Proofs.Ytpblbokdeappgab.Pure
