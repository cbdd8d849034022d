/- The range of any key, of what begins with it, and what any two ranges have in common, are the document's. No condition. -/
import Derived.Test.YtpblbokdeappgabSq
namespace Go.Proofs.Ytpblbokdeappgab.WalkKeyMakes
open Go Go.RowKit Go.Proofs.Ytpblbokdeappgab.Q Go.Proofs.Ytpblbokdeappgab.Str Go.Proofs.Ytpblbokdeappgab.Sp Go.Proofs.Ytpblbokdeappgab.Sq Go.Proofs.Ytpblbokdeappgab.Lists Go.Proofs.YtpblbokdeappgabW.PrintWords
set_option linter.unusedVariables false

theorem ref_loop (x : ByteArray) (n : Nat) : ∀ (a : ByteArray), a.size = n → n ≤ 140737488351232 → ∀ k, n < k → impostref04_Prefix.l0 k x a = some (x, bytesArr (pend a.data.toList)) := by
  induction n with
  | zero =>
    intro a ha _ k hk
    obtain ⟨k, rfl⟩ : ∃ m, k = m + 1 := ⟨k - 1, by omega⟩
    have hl : a.data.toList = [] := List.length_eq_zero_iff.1 (by rw [← size_list]; exact ha)
    simp only [impostref04_Prefix.l0]
    rw [if_neg (by omega), hl]
    congr 2
    exact ext_list hl
  | succ n ih =>
    intro a ha hb k hk
    obtain ⟨k, rfl⟩ : ∃ m, k = m + 1 := ⟨k - 1, by omega⟩
    have hl : a.data.toList.length = n + 1 := by rw [← size_list]; exact ha
    simp only [impostref04_Prefix.l0]
    have ew : wrap64 ((a.size : Int) - 1) = (n : Int) := by rw [ha]; unfold wrap64; omega
    rw [ew, if_pos (by omega), if_pos (by omega), if_pos (by omega), bt_list a n (by omega), Int.toNat_natCast]
    have hx := UInt8.toNat_lt (a.data.toList.getD n 0)
    have et : (a.extract 0 n).data.toList = a.data.toList.take n := by rw [extract_list]; simp
    by_cases h : a.data.toList.getD n 0 = 255
    · rw [if_pos (by rw [h]; rfl), if_pos (by omega), ih (a.extract 0 n) (by rw [ByteArray.size_extract]; omega) (by omega) k (by omega), et]
      rw [← pend_take a.data.toList n (by omega) (fun j h1 h2 => by rw [show j = n by omega]; exact h)]
    · have h2 : (a.data.toList.getD n 0).toNat ≠ 255 := fun e => h (UInt8.toNat_inj.1 e)
      rw [if_neg (by omega), if_pos (by omega)]
      refine Option.bind_eq_some_iff.2 ⟨_, rfl, ?_⟩
      rw [if_pos (by rw [ByteArray.size_extract, strOfNums_size]; simp; omega)]
      congr 2
      apply ext_list
      rw [append_list, et, bytesArr_list, strOfNums_data, Int.emod_eq_of_lt (by omega) (by omega)]
      have e1 : pend a.data.toList = pend (a.data.toList.take (n + 1)) := by rw [List.take_of_length_le (by omega)]
      rw [e1, pend_last _ _ (by omega) h]
      congr 1

theorem ref_meet (k : Nat) (a b c d : ByteArray) : impostref04_Meet.f (k + 2) a b c d = some (if emptyP (meetFrom a.data.toList c.data.toList) (meetTo b.data.toList d.data.toList) then (bytesArr [], bytesArr [], false) else (bytesArr (meetFrom a.data.toList c.data.toList), bytesArr (meetTo b.data.toList d.data.toList), true)) := by
  have en : (⟨#[]⟩ : ByteArray) = bytesArr [] := rfl
  have key : ∀ f : ByteArray, f.data.toList = meetFrom a.data.toList c.data.toList → impostref04_Meet.j0 (k + 2) c d f b = some (if emptyP (meetFrom a.data.toList c.data.toList) (meetTo b.data.toList d.data.toList) then (bytesArr [], bytesArr [], false) else (bytesArr (meetFrom a.data.toList c.data.toList), bytesArr (meetTo b.data.toList d.data.toList), true)) := by
    intro f hf
    have ef : f = bytesArr (meetFrom a.data.toList c.data.toList) := ext_list (by rw [hf, bytesArr_list])
    have hd : ∀ t : ByteArray, t.data.toList = meetTo b.data.toList d.data.toList → ((impostref04_Empty.f f t).bind fun t166 => if t166 = true then some ((⟨#[]⟩ : ByteArray), (⟨#[]⟩ : ByteArray), false) else some (f, t, true)) = some (if emptyP (meetFrom a.data.toList c.data.toList) (meetTo b.data.toList d.data.toList) then (bytesArr [], bytesArr [], false) else (bytesArr (meetFrom a.data.toList c.data.toList), bytesArr (meetTo b.data.toList d.data.toList), true)) := by
      intro t ht
      have e : t = bytesArr (meetTo b.data.toList d.data.toList) := ext_list (by rw [ht, bytesArr_list])
      refine Option.bind_eq_some_iff.2 ⟨_, ref_empty f t, ?_⟩
      rw [hf, ht]
      by_cases he : emptyP (meetFrom a.data.toList c.data.toList) (meetTo b.data.toList d.data.toList)
      · rw [if_pos (decide_eq_true he), if_pos he, en]
      · rw [if_neg (by rw [decide_eq_true_iff]; exact he), if_neg he, ← ef, ← e]
    simp only [impostref04_Meet.j0]
    rw [toL, toL]
    by_cases h1 : b.data.toList = []
    · rw [if_pos h1]
      simp only [impostref04_Meet.j1, if_true]
      exact hd d (by rw [h1]; rfl)
    · rw [if_neg h1]
      by_cases h2 : d.data.toList = []
      · rw [if_pos h2]
        simp only [impostref04_Meet.j1, Bool.false_eq_true, if_false]
        exact hd b (by unfold meetTo; rw [if_neg h1, if_pos h2])
      · rw [if_neg h2]
        by_cases h3 : d.data.toList < b.data.toList
        · rw [less_true.2 h3]
          simp only [impostref04_Meet.j1, if_true]
          refine hd d ?_
          unfold meetTo
          rw [if_neg h1, if_neg h2, if_neg]
          rintro (h | h)
          · exact irrefl _ (lt_trans' h h3)
          · rw [h] at h3; exact irrefl _ h3
        · rw [less_false.2 h3]
          simp only [impostref04_Meet.j1, Bool.false_eq_true, if_false]
          refine hd b ?_
          unfold meetTo
          rw [if_neg h1, if_neg h2, if_pos]
          rcases tri b.data.toList d.data.toList with h | h | h
          · exact .inl h
          · exact .inr h
          · exact absurd h h3
  unfold impostref04_Meet.f
  rw [toL, toL]
  by_cases h : a.data.toList < c.data.toList
  · rw [if_pos (less_true.2 h)]; exact key c (by unfold meetFrom; rw [if_pos h])
  · rw [if_neg (by rw [less_true]; exact h)]; exact key a (by unfold meetFrom; rw [if_neg h])

theorem beq_two (a b : ByteArray) : (a.toList == a.toList && (b.toList == b.toList)) = true := by simp

theorem walk (a b c d k : ByteArray) (ha : a.size ≤ 9223372036854775807) (hb : b.size ≤ 9223372036854775807) (hc : c.size ≤ 9223372036854775807) (hd : d.size ≤ 9223372036854775807) (hk : k.size ≤ 140737488351232) (w : World) :
    Calls Try.prog 7 #[.agg #[.string a, .string b], .agg #[.string c, .string d], .string k] w fun e w' => e = .returned (.bool true) ∧ Below w.heap.size w w' := by
  refine impostlaw04_KeyMakes.calls (k.size + 3) a b c d k true w ?_
  unfold impostlaw04_KeyMakes.f
  refine Option.bind_eq_some_iff.2 ⟨true, awake_from k.size, ?_⟩
  refine Option.bind_eq_some_iff.2 ⟨_, key_meet (k.size + 2) a b c d hb hd, ?_⟩
  refine Option.bind_eq_some_iff.2 ⟨_, ref_meet (k.size + 1) a b c d, ?_⟩
  rw [if_pos rfl]
  refine Option.bind_eq_some_iff.2 ⟨_, key_one k hk, Option.bind_eq_some_iff.2 ⟨_, ref_one k hk, ?_⟩⟩
  rw [if_pos (beq_two _ _)]
  refine Option.bind_eq_some_iff.2 ⟨_, key_prefix k hk, Option.bind_eq_some_iff.2 ⟨_, ref_loop k k.size k rfl hk (k.size + 3) (by omega), ?_⟩⟩
  rw [if_pos (beq_two _ _), if_pos (beq_two _ _), beq_self_eq_true]
end Go.Proofs.Ytpblbokdeappgab.WalkKeyMakes
