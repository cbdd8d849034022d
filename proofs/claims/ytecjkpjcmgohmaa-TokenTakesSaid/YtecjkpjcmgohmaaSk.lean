/- What the key functions that a token asks answer, as plain conditions on lists of bytes. -/
import Derived.Test.YtecjkpjcmgohmaaStr
import Derived.Test.YtecjkpjcmgohmaaQx6
namespace Go.Proofs.Ytecjkpjcmgohmaa.Sk
open Go Go.RowKit Go.Proofs.Ytecjkpjcmgohmaa.Q Go.Proofs.Ytecjkpjcmgohmaa.Str Go.Proofs.YtecjkpjcmgohmaaW.PrintWords Go.Proofs.YtecjkpjcmgohmaaW.PrintLast
set_option linter.unusedVariables false
set_option linter.unusedSimpArgs false

theorem less_true {a b : List UInt8} : Op.bytesLess a b = true ↔ a < b := by rw [less_eq]; simp
theorem less_false {a b : List UInt8} : Op.bytesLess a b = false ↔ ¬ a < b := by rw [less_eq]; simp

theorem toL (a : ByteArray) : a.toList = a.data.toList := Lib.toList_data a
theorem maxS_list (a b : ByteArray) : (Lib.maxS a b).data.toList = if a.data.toList < b.data.toList then b.data.toList else a.data.toList := by unfold Lib.maxS; split <;> rfl
/-- Is a range empty? -/
def emptyP (a b : List UInt8) : Prop := b ≠ [] ∧ ¬ a < b
instance (a b : List UInt8) : Decidable (emptyP a b) := by unfold emptyP; infer_instance
theorem key_empty (a b : ByteArray) : key_Empty.f a b = some (decide (emptyP a.data.toList b.data.toList)) := by
  unfold key_Empty.f
  rw [toL, toL, toL]
  by_cases h : b.data.toList = []
  · rw [if_pos h]; congr 1; symm; rw [decide_eq_false_iff_not]; exact fun e => e.1 h
  · rw [if_neg h, maxS_list]
    congr 1
    rw [Bool.eq_iff_iff, beq_iff_eq, decide_eq_true_iff]
    constructor
    · intro e
      refine ⟨h, fun hl => ?_⟩
      rw [if_pos hl] at e
      rw [e] at hl
      exact absurd hl (List.lt_irrefl _)
    · rintro ⟨_, hl⟩
      rw [if_neg hl]

def bytesArr (l : List UInt8) : ByteArray := ⟨l.toArray⟩
theorem bytesArr_list (l : List UInt8) : (bytesArr l).data.toList = l := rfl
theorem bytesArr_of (a : ByteArray) : bytesArr a.data.toList = a := rfl
theorem ext_list {a b : ByteArray} (h : a.data.toList = b.data.toList) : a = b := by
  rw [← bytesArr_of a, ← bytesArr_of b, h]
theorem size_list (a : ByteArray) : a.size = a.data.toList.length := Array.length_toList.symm

theorem append_list (a b : ByteArray) : (a ++ b).data.toList = a.data.toList ++ b.data.toList := by simp

theorem wrap_small (n : Nat) (h : n ≤ 9223372036854775807) : wrap64 ((n : Int) - 1) = (n : Int) - 1 := by unfold wrap64; omega

theorem bt_list (b : ByteArray) (m : Nat) (h : m < b.size) : bt b (m : Int) = ((b.data.toList.getD m 0).toNat : Int) := by
  have h' : m < b.data.toList.length := by rw [← size_list]; exact h
  have h3 : m < b.data.size := h
  unfold bt
  rw [dif_pos (by simpa using h)]
  simp only [Int.toNat_natCast]
  rw [List.getD, List.getElem?_eq_getElem h']
  rfl

/-- The last byte is 0. -/
def lastZ (b : ByteArray) : Prop := b.data.toList.getD (b.size - 1) 1 = 0
instance (b : ByteArray) : Decidable (lastZ b) := by unfold lastZ; infer_instance

theorem extract_list (b : ByteArray) (i j : Nat) : (b.extract i j).data.toList = (b.data.toList.drop i).take (j - i) := Lib.extract_data b i j

theorem suffix_zero (b : ByteArray) (hn : b.size ≤ 9223372036854775807) : stringslite_HasSuffix.f b (⟨#[0]⟩ : ByteArray) = some (decide (1 ≤ b.size ∧ lastZ b)) := by
  unfold stringslite_HasSuffix.f
  have e1 : (((⟨#[0]⟩ : ByteArray).size : Nat) : Int) = 1 := rfl
  rw [e1]
  by_cases h : 1 ≤ b.size
  · rw [if_pos (by omega), wrap_small _ hn, if_pos (by omega), if_pos (by omega)]
    congr 1
    rw [Bool.eq_iff_iff, beq_iff_eq, decide_eq_true_iff, toL, toL, extract_list]
    have et : ((b.size : Int) - 1).toNat = b.size - 1 := by omega
    rw [et, show b.size - (b.size - 1) = 1 by omega]
    have hl : b.size - 1 < b.data.toList.length := by rw [← size_list]; omega
    rw [List.drop_eq_getElem_cons hl]
    unfold lastZ
    simp only [List.take_succ_cons, List.take_zero, List.getD, List.getElem?_eq_getElem hl, Option.getD_some]
    constructor
    · intro e; exact ⟨h, by injection e⟩
    · intro e; rw [e.2]
  · rw [if_neg (by omega)]; congr 1; symm; rw [decide_eq_false_iff_not]; exact fun e => h e.1

/-- May a range be? -/
def mayP (a b : ByteArray) : Prop := ¬ emptyP a.data.toList b.data.toList ∧ a.size ≤ 8 ∧ (b.size ≤ 8 ∨ (b.size = 9 ∧ lastZ b))
instance (a b : ByteArray) : Decidable (mayP a b) := by unfold mayP; infer_instance

theorem key_mayRange (a b : ByteArray) (hb : b.size ≤ 9223372036854775807) : key_MayRange.f a b = some (decide (mayP a b)) := by
  unfold key_MayRange.f
  rw [key_empty]
  simp only [Option.bind_some, decide_eq_true_iff]
  by_cases h : emptyP a.data.toList b.data.toList
  · rw [if_pos h]; congr 1; symm; rw [decide_eq_false_iff_not]; exact fun e => e.1 h
  · rw [if_neg h]
    by_cases h2 : a.size ≤ 8
    · rw [if_pos (by omega)]
      unfold strings_TrimSuffix.f stringslite_TrimSuffix.f
      rw [suffix_zero b hb]
      simp only [Option.bind_some, decide_eq_true_iff]
      have e1 : (((⟨#[0]⟩ : ByteArray).size : Nat) : Int) = 1 := rfl
      rw [e1]
      by_cases h3 : 1 ≤ b.size ∧ lastZ b
      · rw [if_pos h3, wrap_small _ hb, if_pos (by omega), if_pos (by omega)]
        simp only [Option.bind_some]
        congr 1
        rw [decide_eq_decide]
        have et : ((b.size : Int) - 1).toNat = b.size - 1 := by omega
        have es : (b.extract 0 ((b.size : Int) - 1).toNat).size = b.size - 1 := by rw [ByteArray.size_extract, et]; omega
        rw [es]
        have h1 := h3.1
        constructor
        · intro e; exact ⟨h, h2, by by_cases h9 : b.size ≤ 8; exact .inl h9; exact .inr ⟨by omega, h3.2⟩⟩
        · rintro ⟨_, _, e | e⟩ <;> omega
      · rw [if_neg h3]
        simp only [Option.bind_some]
        congr 1
        rw [decide_eq_decide]
        constructor
        · intro e; exact ⟨h, h2, .inl (by omega)⟩
        · rintro ⟨_, _, e | e⟩
          · omega
          · exact absurd ⟨by omega, e.2⟩ h3
    · rw [if_neg (by omega)]; congr 1; symm; rw [decide_eq_false_iff_not]; exact fun e => h2 e.2.1

theorem ref_empty (a b : ByteArray) : impostref04_Empty.f a b = some (decide (emptyP a.data.toList b.data.toList)) := by
  unfold impostref04_Empty.f
  rw [toL, toL]
  by_cases h : b.data.toList = []
  · rw [if_pos h]; congr 1; symm; rw [decide_eq_false_iff_not]; exact fun e => e.1 h
  · rw [if_neg h]; congr 1
    rw [Bool.eq_iff_iff, decide_eq_true_iff, Bool.not_eq_true', less_false]
    exact ⟨fun e => ⟨h, e⟩, fun e => e.2⟩

theorem ref_mayRange (a b : ByteArray) (hb : b.size ≤ 9223372036854775807) : impostref04_MayRange.f a b = some (decide (mayP a b)) := by
  unfold impostref04_MayRange.f
  rw [ref_empty]
  simp only [Option.bind_some, decide_eq_true_iff]
  by_cases h9 : b.size = 9
  · have em : mx (wrap64 ((b.size : Int) - 1)) 0 = 8 := by rw [wrap_small _ hb, h9]; rfl
    rw [if_pos (by omega), em, if_pos (by omega), if_pos (by omega)]
    by_cases h : emptyP a.data.toList b.data.toList
    · rw [if_pos h]; congr 1; symm; rw [decide_eq_false_iff_not]; exact fun e => e.1 h
    · rw [if_neg h]
      by_cases h2 : a.size ≤ 8
      · rw [if_pos (by omega), if_neg (by omega)]
        congr 1
        rw [Bool.eq_iff_iff, beq_iff_eq, decide_eq_true_iff, show (8 : Int) = ((8 : Nat) : Int) from rfl, bt_list b 8 (by omega)]
        have hl : 8 < b.data.toList.length := by rw [← size_list]; omega
        have ez : lastZ b ↔ ((b.data.toList.getD 8 0).toNat : Int) = 0 := by
          unfold lastZ
          rw [h9]
          simp only [List.getD, List.getElem?_eq_getElem hl, Option.getD_some]
          rw [← UInt8.toNat_inj]
          have : (0 : UInt8).toNat = 0 := rfl
          show _ = (0 : UInt8).toNat ↔ _
          omega
        constructor
        · intro e; exact ⟨h, h2, .inr ⟨h9, ez.2 e⟩⟩
        · rintro ⟨_, _, e | e⟩
          · omega
          · exact ez.1 e.2
      · rw [if_neg (by omega)]; congr 1; symm; rw [decide_eq_false_iff_not]; exact fun e => h2 e.2.1
  · rw [if_neg (by omega)]
    by_cases h : emptyP a.data.toList b.data.toList
    · rw [if_pos h]; congr 1; symm; rw [decide_eq_false_iff_not]; exact fun e => e.1 h
    · rw [if_neg h]
      by_cases h2 : a.size ≤ 8
      · rw [if_pos (by omega)]
        by_cases h3 : b.size ≤ 8
        · rw [if_pos (by omega)]; congr 1; symm; rw [decide_eq_true_iff]; exact ⟨h, h2, .inl h3⟩
        · rw [if_neg (by omega)]; congr 1; symm; rw [decide_eq_false_iff_not]; rintro ⟨_, _, e | e⟩ <;> omega
      · rw [if_neg (by omega)]; congr 1; symm; rw [decide_eq_false_iff_not]; exact fun e => h2 e.2.1


end Go.Proofs.Ytecjkpjcmgohmaa.Sk
