/- The range of a prefix has just the keys that begin with it, among them each text behind it, and is not empty. No condition. -/
import Derived.Test.YtpblbokdeappgabSq
namespace Go.Proofs.Ytpblbokdeappgab.Pure
open Go Go.RowKit Go.Proofs.Ytpblbokdeappgab.Q Go.Proofs.Ytpblbokdeappgab.Str Go.Proofs.Ytpblbokdeappgab.Sp Go.Proofs.Ytpblbokdeappgab.Sq Go.Proofs.Ytpblbokdeappgab.Lists Go.Proofs.YtpblbokdeappgabW.PrintWords Go.Proofs.YtpblbokdeappgabW.PrintLast

theorem prefix_ends (k : Nat) (p x : ByteArray) (hp : p.size ≤ 140737488351232) (hx : x.size ≤ 140737488351232) (g : Bool) (hg : g = true ↔ p.data.toList <+: x.data.toList) : impostlaw04_KeyPrefix.j0 (k + 1) p x true g = some true := by
  have hf : key_Empty.f p (bytesArr (pend p.data.toList)) = some false := by
    rw [key_empty, bytesArr_list]; congr 1; rw [decide_eq_false_iff_not]; exact prefix_full _
  simp only [impostlaw04_KeyPrefix.j0, if_true]
  refine Option.bind_eq_some_iff.2 ⟨_, key_prefix p hp, Option.bind_eq_some_iff.2 ⟨g, ?_, ?_⟩⟩
  · rw [key_in, bytesArr_list]; congr 1; rw [Bool.eq_iff_iff, decide_eq_true_iff, prefix_in, hg]
  · rw [if_pos (beq_self_eq_true _)]
    refine Option.bind_eq_some_iff.2 ⟨_, key_prefix p hp, ?_⟩
    rw [if_pos (by omega)]
    refine Option.bind_eq_some_iff.2 ⟨true, ?_, ?_⟩
    · rw [key_in, bytesArr_list]; congr 1; rw [decide_eq_true_iff, prefix_in, append_list]; exact List.prefix_append _ _
    · rw [if_pos rfl]
      exact Option.bind_eq_some_iff.2 ⟨_, key_prefix p hp, Option.bind_eq_some_iff.2 ⟨false, hf, rfl⟩⟩

theorem KeyPrefix : impostlaw04_KeyPrefix.Pure := by
  intro p x hp hx
  refine ⟨3, ?_⟩
  unfold impostlaw04_KeyPrefix.f
  refine Option.bind_eq_some_iff.2 ⟨true, awake_from 0, ?_⟩
  by_cases h : p.size ≤ x.size
  · have em : mn (p.size : Int) (x.size : Int) = (p.size : Int) := by unfold mn; rw [if_neg (by omega)]
    rw [if_pos (by omega), em, if_pos (by omega), if_pos (by omega), Int.toNat_natCast]
    refine prefix_ends 2 p x hp hx _ ?_
    rw [beq_iff_eq, toL, toL, extract_list, List.drop_zero, Nat.sub_zero, size_list]
    rw [List.prefix_iff_eq_take]
    exact ⟨fun e => e.symm, fun e => e.symm⟩
  · rw [if_neg (by omega)]
    refine prefix_ends 2 p x hp hx _ ?_
    refine ⟨fun e => (by cases e), fun e => absurd e.length_le ?_⟩
    rw [← size_list, ← size_list]; exact h

end Go.Proofs.Ytpblbokdeappgab.Pure
