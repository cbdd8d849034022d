/- The plain laws of ranges of byte strings in their order: lists alone. -/
import Derived.Test.YtpblbokdeappgabSp
namespace Go.Proofs.Ytpblbokdeappgab.Lists
set_option linter.unusedSimpArgs false
open Go Go.Proofs.Ytpblbokdeappgab.Q Go.Proofs.Ytpblbokdeappgab.Sp

theorem lt_cons {a b : UInt8} {s t : List UInt8} : a :: s < b :: t ↔ a < b ∨ (a = b ∧ s < t) := List.cons_lt_cons_iff
theorem not_lt_nil (l : List UInt8) : ¬ l < [] := List.not_lt_nil l
theorem nil_lt (a : UInt8) (l : List UInt8) : [] < a :: l := List.nil_lt_cons a l

theorem lt_trans' {a b c : List UInt8} (h : a < b) (k : b < c) : a < c := List.lt_trans h k
theorem le_lt {a b c : List UInt8} (h : ¬ b < a) (k : b < c) : a < c := by
  rcases List.le_iff_lt_or_eq.1 (show a ≤ b from h) with h | h
  · exact List.lt_trans h k
  · rw [h]; exact k
theorem lt_le {a b c : List UInt8} (h : a < b) (k : ¬ c < b) : a < c := by
  rcases List.le_iff_lt_or_eq.1 (show b ≤ c from k) with k | k
  · exact List.lt_trans h k
  · rw [← k]; exact h
theorem irrefl (a : List UInt8) : ¬ a < a := List.lt_irrefl a
theorem tri (a b : List UInt8) : a < b ∨ a = b ∨ b < a := by
  by_cases h : a < b
  · exact .inl h
  · rcases List.le_iff_lt_or_eq.1 (show b ≤ a from h) with h | h
    · exact .inr (.inr h)
    · exact .inr (.inl h.symm)

/-! ### The range of one key -/
theorem lt_snoc (k x : List UInt8) : x < k ++ [0] ↔ x < k ∨ x = k := by
  induction k generalizing x with
  | nil =>
    cases x with
    | nil => simp [nil_lt]
    | cons d t =>
      have h0 : ¬ d < 0 := by simp
      simp only [List.nil_append, lt_cons, not_lt_nil, and_false, or_false, reduceCtorEq]
      exact iff_of_false h0 (by simp)
  | cons c k ih =>
    cases x with
    | nil => simp [nil_lt]
    | cons d t =>
      rw [List.cons_append, lt_cons, lt_cons, ih, List.cons.injEq]
      constructor
      · rintro (h | ⟨h, h' | h'⟩)
        · exact .inl (.inl h)
        · exact .inl (.inr ⟨h, h'⟩)
        · exact .inr ⟨h, h'⟩
      · rintro ((h | ⟨h, h'⟩) | ⟨h, h'⟩)
        · exact .inl h
        · exact .inr ⟨h, .inl h'⟩
        · exact .inr ⟨h, .inr h'⟩

theorem one_in (k x : List UInt8) : inP k (k ++ [0]) x ↔ x = k := by
  unfold inP
  rw [lt_snoc]
  constructor
  · rintro ⟨h, h' | h' | h'⟩
    · simp at h'
    · exact absurd h' h
    · exact h'
  · rintro rfl
    exact ⟨irrefl x, .inr (.inr rfl)⟩

theorem one_full (k : List UInt8) : ¬ emptyP k (k ++ [0]) := by
  rintro ⟨_, h⟩
  exact h ((lt_snoc k k).2 (.inr rfl))

/-! ### The range of a prefix -/
theorem up_append (a : List UInt8) (c : UInt8) : up (a ++ [c]) = if up a = [] then (if c = 255 then [] else [c + 1]) else up a ++ [c] := by
  induction a with
  | nil => simp [up]
  | cons d t ih =>
    rw [List.cons_append, up]
    by_cases h : d = 255
    · rw [if_pos h, ih, up, if_pos h]
    · rw [if_neg h, up, if_neg h, if_neg (by simp)]; rfl

theorem pend_cons (c : UInt8) (p : List UInt8) : pend (c :: p) = if pend p = [] then (if c = 255 then [] else [c + 1]) else c :: pend p := by
  unfold pend
  rw [List.reverse_cons, up_append]
  by_cases h : up p.reverse = []
  · rw [if_pos h, h]; simp only [List.reverse_nil, if_true]; split <;> rfl
  · rw [if_neg h, if_neg (by simpa using h)]; simp

theorem succ_nat {c : UInt8} (h : c ≠ 255) : (c + 1).toNat = c.toNat + 1 := by
  have h2 : c.toNat ≠ 255 := fun e => h (UInt8.toNat_inj.1 e)
  have := UInt8.toNat_lt c
  rw [UInt8.toNat_add]
  have : (1 : UInt8).toNat = 1 := rfl
  omega

theorem prefix_in (p k : List UInt8) : inP p (pend p) k ↔ p <+: k := by
  unfold inP
  induction p generalizing k with
  | nil => simp [not_lt_nil, pend_nil]
  | cons c p ih =>
    cases k with
    | nil => simp [nil_lt]
    | cons d t =>
      rw [List.cons_prefix_cons, lt_cons, pend_cons]
      have ih := ih t
      by_cases hp : pend p = []
      · rw [if_pos hp]
        rw [hp] at ih
        simp only [true_or, and_true] at ih
        by_cases hc : c = 255
        · rw [if_pos hc, ← ih]
          have hd : ¬ d < c → c = d := fun h => by
            rw [hc] at h ⊢
            rw [UInt8.lt_iff_toNat_lt] at h
            have := UInt8.toNat_lt d
            apply UInt8.toNat_inj.1
            have : (255 : UInt8).toNat = 255 := rfl
            omega
          constructor
          · rintro ⟨h, _⟩
            have e := hd (fun h' => h (.inl h'))
            exact ⟨e, fun h' => h (.inr ⟨e.symm, h'⟩)⟩
          · rintro ⟨e, h⟩
            refine ⟨?_, .inl rfl⟩
            rintro (h' | ⟨_, h'⟩)
            · rw [e, UInt8.lt_iff_toNat_lt] at h'; omega
            · exact h h'
        · rw [if_neg hc, ← ih, lt_cons]
          have hs := succ_nat hc
          constructor
          · rintro ⟨h, h' | h' | ⟨_, h'⟩⟩
            · simp at h'
            · have e : c = d := by
                have h1 : ¬ d < c := fun h'' => h (.inl h'')
                rw [UInt8.lt_iff_toNat_lt] at h1 h'
                apply UInt8.toNat_inj.1; omega
              exact ⟨e, fun h'' => h (.inr ⟨e.symm, h''⟩)⟩
            · exact absurd h' (not_lt_nil _)
          · rintro ⟨e, h⟩
            refine ⟨?_, .inr (.inl ?_)⟩
            · rintro (h' | ⟨_, h'⟩)
              · rw [e, UInt8.lt_iff_toNat_lt] at h'; omega
              · exact h h'
            · rw [← e, UInt8.lt_iff_toNat_lt]; omega
      · rw [if_neg hp, ← ih, lt_cons]
        simp only [hp, false_or]
        constructor
        · rintro ⟨h, h' | h' | ⟨e, h'⟩⟩
          · simp at h'
          · exact absurd (.inl h') h
          · exact ⟨e.symm, fun h'' => h (.inr ⟨e, h''⟩), h'⟩
        · rintro ⟨e, h, h'⟩
          refine ⟨?_, .inr (.inr ⟨e.symm, h'⟩)⟩
          rintro (h'' | ⟨_, h''⟩)
          · rw [e, UInt8.lt_iff_toNat_lt] at h''; omega
          · exact h h''

theorem prefix_full (p : List UInt8) : ¬ emptyP p (pend p) := by
  rintro ⟨h, h'⟩
  exact h' (((prefix_in p p).2 (List.prefix_refl p)).2.resolve_left h)

/-! ### What two ranges have in common -/
theorem from_comm (a c : List UInt8) : meetFrom a c = meetFrom c a := by
  unfold meetFrom
  rcases tri a c with h | h | h
  · rw [if_pos h, if_neg (fun h' => irrefl _ (lt_trans' h h'))]
  · rw [h]
  · rw [if_neg (fun h' => irrefl _ (lt_trans' h h')), if_pos h]

theorem to_comm (b d : List UInt8) : meetTo b d = meetTo d b := by
  unfold meetTo
  by_cases hb : b = []
  · by_cases hd : d = []
    · rw [hb, hd]
    · rw [if_pos hb, if_neg hd, if_pos hb]
  · by_cases hd : d = []
    · rw [if_neg hb, if_pos hd, if_pos hd]
    · rw [if_neg hb, if_neg hd, if_neg hd, if_neg hb]
      rcases tri b d with h | h | h
      · rw [if_pos (.inl h), if_neg]
        rintro (h' | h')
        · exact irrefl _ (lt_trans' h h')
        · rw [h'] at h; exact irrefl _ h
      · rw [h]
      · rw [if_neg, if_pos (.inl h)]
        rintro (h' | h')
        · exact irrefl _ (lt_trans' h h')
        · rw [h'] at h; exact irrefl _ h

theorem from_le (a c k : List UInt8) : ¬ k < meetFrom a c ↔ ¬ k < a ∧ ¬ k < c := by
  unfold meetFrom
  by_cases h : a < c
  · rw [if_pos h]
    exact ⟨fun h' => ⟨fun h'' => h' (lt_trans' h'' h), h'⟩, fun h' => h'.2⟩
  · rw [if_neg h]
    exact ⟨fun h' => ⟨h', fun h'' => h' (lt_le h'' h)⟩, fun h' => h'.1⟩

theorem to_lt (b d k : List UInt8) : (meetTo b d = [] ∨ k < meetTo b d) ↔ (b = [] ∨ k < b) ∧ (d = [] ∨ k < d) := by
  unfold meetTo
  by_cases hb : b = []
  · rw [if_pos hb]; simp [hb]
  · rw [if_neg hb]
    by_cases hd : d = []
    · rw [if_pos hd]; simp [hd]
    · rw [if_neg hd]
      by_cases h : b < d ∨ b = d
      · rw [if_pos h]
        simp only [hb, hd, false_or]
        refine ⟨fun h' => ⟨h', ?_⟩, fun h' => h'.1⟩
        rcases h with h | h
        · exact lt_trans' h' h
        · rw [← h]; exact h'
      · rw [if_neg h]
        simp only [hb, hd, false_or]
        refine ⟨fun h' => ⟨lt_le h' (fun h'' => h (.inl h'')), h'⟩, fun h' => h'.2⟩

theorem meet_in (a b c d k : List UInt8) : inP (meetFrom a c) (meetTo b d) k ↔ inP a b k ∧ inP c d k := by
  unfold inP
  rw [from_le, to_lt]
  constructor
  · rintro ⟨⟨h1, h2⟩, h3, h4⟩; exact ⟨⟨h1, h3⟩, h2, h4⟩
  · rintro ⟨⟨h1, h3⟩, h2, h4⟩; exact ⟨⟨h1, h2⟩, h3, h4⟩

theorem empty_in {a b k : List UInt8} (h : emptyP a b) : ¬ inP a b k := by
  rintro ⟨h1, h2⟩
  exact h.2 (le_lt h1 (h2.resolve_left h.1))

theorem empty_iff (a b : List UInt8) : emptyP a b ↔ ¬ inP a b a := by
  constructor
  · exact fun h => empty_in h
  · intro h
    refine ⟨fun hb => h ⟨irrefl a, .inl hb⟩, fun hl => h ⟨irrefl a, .inr hl⟩⟩

theorem later_in {a b k o : List UInt8} (h : a < o) (hk : inP o b k) : inP a b k :=
  ⟨fun h' => hk.1 (lt_trans' h' h), hk.2⟩
theorem sooner_in {a b k o : List UInt8} (ho : o ≠ []) (h : b = [] ∨ o < b) (hk : inP a o k) : inP a b k :=
  ⟨hk.1, h.imp id fun h => lt_trans' (hk.2.resolve_left ho) h⟩
end Go.Proofs.Ytpblbokdeappgab.Lists
