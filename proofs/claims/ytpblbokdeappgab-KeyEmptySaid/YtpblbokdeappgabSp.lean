/- What each of the key functions answers, as plain conditions on lists of bytes. -/
import Derived.Test.YtpblbokdeappgabStr
import Derived.Test.YtpblbokdeappgabQx2
namespace Go.Proofs.Ytpblbokdeappgab.Sp
open Go Go.RowKit Go.Proofs.Ytpblbokdeappgab.Q Go.Proofs.Ytpblbokdeappgab.Str Go.Proofs.YtpblbokdeappgabW.PrintWords
set_option linter.unusedVariables false

theorem less_true {a b : List UInt8} : Op.bytesLess a b = true ↔ a < b := by rw [less_eq]; simp
theorem less_false {a b : List UInt8} : Op.bytesLess a b = false ↔ ¬ a < b := by rw [less_eq]; simp

theorem toL (a : ByteArray) : a.toList = a.data.toList := Lib.toList_data a
theorem maxS_list (a b : ByteArray) : (Lib.maxS a b).data.toList = if a.data.toList < b.data.toList then b.data.toList else a.data.toList := by unfold Lib.maxS; split <;> rfl
theorem minS_list (a b : ByteArray) : (Lib.minS a b).data.toList = if a.data.toList < b.data.toList ∨ a.data.toList = b.data.toList then a.data.toList else b.data.toList := by unfold Lib.minS; split <;> rfl

/-- Is a range empty? -/
def emptyP (a b : List UInt8) : Prop := b ≠ [] ∧ ¬ a < b
instance (a b : List UInt8) : Decidable (emptyP a b) := by unfold emptyP; infer_instance
/-- Is a key in a range? -/
def inP (a b k : List UInt8) : Prop := ¬ k < a ∧ (b = [] ∨ k < b)
instance (a b k : List UInt8) : Decidable (inP a b k) := by unfold inP; infer_instance

theorem key_empty (a b : ByteArray) : key_Empty.f a b = some (decide (emptyP a.data.toList b.data.toList)) := by
  unfold key_Empty.f
  rw [toL, toL, toL]
  by_cases h : b.data.toList = []
  · rw [if_pos h]; congr 1; symm; rw [decide_eq_false_iff_not]; exact fun e => e.1 h
  · rw [if_neg h, maxS_list]
    congr 1
    rw [Bool.eq_iff_iff, beq_iff_eq, decide_eq_true_iff]
    constructor
    · intro e
      refine ⟨h, fun hl => ?_⟩
      rw [if_pos hl] at e
      rw [e] at hl
      exact absurd hl (List.lt_irrefl _)
    · rintro ⟨_, hl⟩
      rw [if_neg hl]

theorem key_in (a b k : ByteArray) : key_In.f a b k = some (decide (inP a.data.toList b.data.toList k.data.toList)) := by
  unfold key_In.f
  rw [toL, toL, toL]
  by_cases h : k.data.toList < a.data.toList
  · rw [if_pos (less_true.2 h)]; congr 1; symm; rw [decide_eq_false_iff_not]; exact fun e => e.1 h
  · rw [if_neg (by rw [less_true]; exact h)]
    by_cases h2 : b.data.toList = []
    · rw [if_pos h2]; congr 1; symm; rw [decide_eq_true_iff]; exact ⟨h, .inl h2⟩
    · rw [if_neg h2]
      congr 1
      rw [Bool.eq_iff_iff, decide_eq_true_iff, less_true]
      exact ⟨fun e => ⟨h, .inr e⟩, fun e => e.2.resolve_left h2⟩

/-- The range of what two ranges have in common. -/
def meetTo (b d : List UInt8) : List UInt8 := if b = [] then d else if d = [] then b else if b < d ∨ b = d then b else d
def meetFrom (a c : List UInt8) : List UInt8 := if a < c then c else a
def bytesArr (l : List UInt8) : ByteArray := ⟨l.toArray⟩
theorem bytesArr_list (l : List UInt8) : (bytesArr l).data.toList = l := rfl
theorem bytesArr_of (a : ByteArray) : bytesArr a.data.toList = a := rfl
theorem ext_list {a b : ByteArray} (h : a.data.toList = b.data.toList) : a = b := by
  rw [← bytesArr_of a, ← bytesArr_of b, h]
theorem size_list (a : ByteArray) : a.size = a.data.toList.length := Array.length_toList.symm

theorem append_list (a b : ByteArray) : (a ++ b).data.toList = a.data.toList ++ b.data.toList := by simp

theorem key_meet (k : Nat) (a b c d : ByteArray) (hb : b.size ≤ 9223372036854775807) (hd : d.size ≤ 9223372036854775807) :
    key_Meet.f (k + 1) a b c d = some (if emptyP (meetFrom a.data.toList c.data.toList) (meetTo b.data.toList d.data.toList) then (bytesArr [], bytesArr [], false) else (bytesArr (meetFrom a.data.toList c.data.toList), bytesArr (meetTo b.data.toList d.data.toList), true)) := by
  have em : bytesArr (meetFrom a.data.toList c.data.toList) = Lib.maxS a c := by
    apply ext_list; rw [bytesArr_list, maxS_list]; rfl
  have el : (Lib.maxS a c).data.toList = meetFrom a.data.toList c.data.toList := by rw [← em]; rfl
  have en : (⟨#[]⟩ : ByteArray) = bytesArr [] := rfl
  unfold key_Meet.f
  rw [toL, toL]
  by_cases h : b.data.toList = []
  · rw [if_pos h]
    have e : b ++ d = bytesArr (meetTo b.data.toList d.data.toList) := by
      apply ext_list; rw [append_list, bytesArr_list, h]; simp [meetTo]
    have hs : b.size + d.size ≤ 9223372036854775807 := by rw [size_list b, h]; simp; simpa using hd
    simp only [key_Meet.j0, if_true]
    rw [if_pos hs, key_empty, e, bytesArr_list, el]
    simp only [Option.bind_some, decide_eq_true_iff]
    split
    · rw [en]
    · rw [em]
  · rw [if_neg h]
    by_cases h2 : d.data.toList = []
    · have e : b ++ d = bytesArr (meetTo b.data.toList d.data.toList) := by
        apply ext_list; rw [append_list, bytesArr_list, h2]; simp [meetTo, h]
      have hs : b.size + d.size ≤ 9223372036854775807 := by rw [size_list d, h2]; simp; simpa using hb
      rw [h2] at *
      rw [beq_self_eq_true]
      simp only [key_Meet.j0, if_true]
      rw [if_pos hs, key_empty, e, bytesArr_list, el]
      simp only [Option.bind_some, decide_eq_true_iff]
      split
      · rw [en]
      · rw [em]
    · have e : Lib.minS b d = bytesArr (meetTo b.data.toList d.data.toList) := by
        apply ext_list; rw [minS_list, bytesArr_list]; simp [meetTo, h, h2]
      rw [beq_eq_false_iff_ne.2 h2]
      simp only [key_Meet.j0, Bool.false_eq_true, if_false]
      rw [key_empty, e, bytesArr_list, el]
      simp only [Option.bind_some, decide_eq_true_iff]
      split
      · rw [en]
      · rw [em]

theorem awake_true : ∃ k, impostlaw04_awake.f k = some true := ⟨3, by decide +kernel⟩
end Go.Proofs.Ytpblbokdeappgab.Sp
