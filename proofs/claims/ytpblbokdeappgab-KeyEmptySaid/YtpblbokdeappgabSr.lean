/- What the key functions that KeyEmpty asks answer. -/
import Derived.Test.YtpblbokdeappgabLists


namespace Go.Proofs.Ytpblbokdeappgab.Sr
open Go Go.RowKit Go.Proofs.Ytpblbokdeappgab.Q Go.Proofs.Ytpblbokdeappgab.Str Go.Proofs.Ytpblbokdeappgab.Sp Go.Proofs.Ytpblbokdeappgab.Lists Go.Proofs.YtpblbokdeappgabW.PrintWords Go.Proofs.YtpblbokdeappgabW.PrintLast
set_option linter.unusedVariables false
set_option linter.unusedSimpArgs false

theorem awake_from (k : Nat) : impostlaw04_awake.f (k + 3) = some true := by
  induction k with
  | zero => decide +kernel
  | succ k ih => exact impostlaw04_awake.mono (k + 3) _ ih

theorem wrap_small (n : Nat) (h : n ≤ 9223372036854775807) : wrap64 ((n : Int) - 1) = (n : Int) - 1 := by unfold wrap64; omega

theorem key_may (a : ByteArray) : key_May.f a = some (decide (1 ≤ a.size ∧ a.size ≤ 8)) := by
  unfold key_May.f
  rw [toL]
  by_cases h : a.data.toList = []
  · rw [if_pos h]; congr 1; symm; rw [decide_eq_false_iff_not, size_list, h]; simp
  · rw [if_neg h]; congr 1; rw [decide_eq_decide, size_list]
    have : 0 < a.data.toList.length := List.length_pos_iff.2 h
    omega

theorem bt_list (b : ByteArray) (m : Nat) (h : m < b.size) : bt b (m : Int) = ((b.data.toList.getD m 0).toNat : Int) := by
  have h' : m < b.data.toList.length := by rw [← size_list]; exact h
  have h3 : m < b.data.size := h
  unfold bt
  rw [dif_pos (by simpa using h)]
  simp only [Int.toNat_natCast]
  rw [List.getD, List.getElem?_eq_getElem h']
  rfl

/-- The last byte is 0. -/
def lastZ (b : ByteArray) : Prop := b.data.toList.getD (b.size - 1) 1 = 0
instance (b : ByteArray) : Decidable (lastZ b) := by unfold lastZ; infer_instance

theorem extract_list (b : ByteArray) (i j : Nat) : (b.extract i j).data.toList = (b.data.toList.drop i).take (j - i) := Lib.extract_data b i j

theorem suffix_zero (b : ByteArray) (hn : b.size ≤ 9223372036854775807) : stringslite_HasSuffix.f b (⟨#[0]⟩ : ByteArray) = some (decide (1 ≤ b.size ∧ lastZ b)) := by
  unfold stringslite_HasSuffix.f
  have e1 : (((⟨#[0]⟩ : ByteArray).size : Nat) : Int) = 1 := rfl
  rw [e1]
  by_cases h : 1 ≤ b.size
  · rw [if_pos (by omega), wrap_small _ hn, if_pos (by omega), if_pos (by omega)]
    congr 1
    rw [Bool.eq_iff_iff, beq_iff_eq, decide_eq_true_iff, toL, toL, extract_list]
    have et : ((b.size : Int) - 1).toNat = b.size - 1 := by omega
    rw [et, show b.size - (b.size - 1) = 1 by omega]
    have hl : b.size - 1 < b.data.toList.length := by rw [← size_list]; omega
    rw [List.drop_eq_getElem_cons hl]
    unfold lastZ
    simp only [List.take_succ_cons, List.take_zero, List.getD, List.getElem?_eq_getElem hl, Option.getD_some]
    constructor
    · intro e; exact ⟨h, by injection e⟩
    · intro e; rw [e.2]
  · rw [if_neg (by omega)]; congr 1; symm; rw [decide_eq_false_iff_not]; exact fun e => h e.1

/-- May a range be? -/
def mayP (a b : ByteArray) : Prop := ¬ emptyP a.data.toList b.data.toList ∧ a.size ≤ 8 ∧ (b.size ≤ 8 ∨ (b.size = 9 ∧ lastZ b))
instance (a b : ByteArray) : Decidable (mayP a b) := by unfold mayP; infer_instance

theorem key_mayRange (a b : ByteArray) (hb : b.size ≤ 9223372036854775807) : key_MayRange.f a b = some (decide (mayP a b)) := by
  unfold key_MayRange.f
  rw [key_empty]
  simp only [Option.bind_some, decide_eq_true_iff]
  by_cases h : emptyP a.data.toList b.data.toList
  · rw [if_pos h]; congr 1; symm; rw [decide_eq_false_iff_not]; exact fun e => e.1 h
  · rw [if_neg h]
    by_cases h2 : a.size ≤ 8
    · rw [if_pos (by omega)]
      unfold strings_TrimSuffix.f stringslite_TrimSuffix.f
      rw [suffix_zero b hb]
      simp only [Option.bind_some, decide_eq_true_iff]
      have e1 : (((⟨#[0]⟩ : ByteArray).size : Nat) : Int) = 1 := rfl
      rw [e1]
      by_cases h3 : 1 ≤ b.size ∧ lastZ b
      · rw [if_pos h3, wrap_small _ hb, if_pos (by omega), if_pos (by omega)]
        simp only [Option.bind_some]
        congr 1
        rw [decide_eq_decide]
        have et : ((b.size : Int) - 1).toNat = b.size - 1 := by omega
        have es : (b.extract 0 ((b.size : Int) - 1).toNat).size = b.size - 1 := by rw [ByteArray.size_extract, et]; omega
        rw [es]
        have h1 := h3.1
        constructor
        · intro e; exact ⟨h, h2, by by_cases h9 : b.size ≤ 8; exact .inl h9; exact .inr ⟨by omega, h3.2⟩⟩
        · rintro ⟨_, _, e | e⟩ <;> omega
      · rw [if_neg h3]
        simp only [Option.bind_some]
        congr 1
        rw [decide_eq_decide]
        constructor
        · intro e; exact ⟨h, h2, .inl (by omega)⟩
        · rintro ⟨_, _, e | e⟩
          · omega
          · exact absurd ⟨by omega, e.2⟩ h3
    · rw [if_neg (by omega)]; congr 1; symm; rw [decide_eq_false_iff_not]; exact fun e => h2 e.2.1

end Go.Proofs.Ytpblbokdeappgab.Sr
