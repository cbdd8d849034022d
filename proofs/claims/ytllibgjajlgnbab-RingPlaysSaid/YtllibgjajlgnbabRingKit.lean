/- The plain laws of the log's cells that the walks of the laws use. -/
import Derived.Test.YtllibgjajlgnbabRingRan2
namespace Go.Proofs.Ytllibgjajlgnbab.RingKit
open Go Go.RowKit Go.Proofs.Ytllibgjajlgnbab.Only Go.Proofs.Ytllibgjajlgnbab.Mem Go.Proofs.Ytllibgjajlgnbab.New Go.Proofs.Ytllibgjajlgnbab.Ref Go.Proofs.Ytllibgjajlgnbab.Ring Go.Proofs.Ytllibgjajlgnbab.RingRef Go.Proofs.Ytllibgjajlgnbab.RingDo Go.Proofs.Ytllibgjajlgnbab.RingRan Go.Proofs.Ytllibgjajlgnbab.Args
set_option linter.unusedVariables false
set_option linter.unusedSimpArgs false

theorem rd_setAt_other (C : List Int) (a b x : Int) (h : a ≠ b) : rdAt (setAt C a x) b = rdAt C b := by
  unfold rdAt
  have e : inR (setAt C a x) b = inR C b := by unfold inR; rw [setAt_length]
  rw [e]
  by_cases hb : inR C b = true
  · rw [if_pos hb, if_pos hb]
    unfold setAt
    by_cases hi : inR C a = true
    · rw [if_pos hi]
      have h0 := (inR_true.1 hi).1
      have h1 := (inR_true.1 hb).1
      have hne : a.toNat ≠ b.toNat := by omega
      simp [List.getD, List.getElem?_set, hne]
    · rw [if_neg hi]
  · rw [if_neg hb, if_neg hb]
theorem rd_setAt_same (C : List Int) (a x : Int) (h : inR C a = true) : rdAt (setAt C a x) a = x := by
  have e : inR (setAt C a x) a = true := by unfold inR; rw [setAt_length]; exact h
  unfold rdAt
  rw [if_pos e]
  unfold setAt
  rw [if_pos h]
  obtain ⟨h0, h1⟩ := inR_true.1 h
  have : a.toNat < C.length := by omega
  simp [List.getD, this]
theorem rd_casAt_other (C : List Int) (a o x b : Int) (h : a ≠ b) : rdAt (casAt C a o x) b = rdAt C b := by
  unfold casAt; split
  · exact rd_setAt_other C a b x h
  · rfl
theorem rd_setC_other (C : List Int) (row k was what b : Int) (h : okN k = true → rc row k ≠ b) : rdAt (setC C row k was what) b = rdAt C b := by
  unfold setC; split
  · rename_i ho; exact rd_casAt_other _ _ _ _ _ (h ho)
  · rfl
theorem setB_hit {C : List Int} (hl : C.length = 35) {row k was : Int} (hrow : row = 0 ∨ row = 1) (ho : okN k = true) (h : was = rdAt C (rc row k)) : setB C row k was = true := by
  have := rin hl row k hrow
  simp [setB, casB, ho, this, h]
theorem rd_setC_same {C : List Int} (hl : C.length = 35) {row k was : Int} (hrow : row = 0 ∨ row = 1) (ho : okN k = true) (h : was = rdAt C (rc row k)) (what : Int) : rdAt (setC C row k was what) (rc row k) = wordOf k what := by
  have hi := rin hl row k hrow
  have hb : casB C (rc row k) was = true := by simp [casB, hi, h]
  unfold setC casAt
  rw [if_pos ho, if_pos hb]
  exact rd_setAt_same _ _ _ hi
theorem setB_miss {C : List Int} {row k was : Int} (h : was ≠ rdAt C (rc row k)) : setB C row k was = false := by
  have : (rdAt C (rc row k) == was) = false := beq_false_of_ne (fun e => h e.symm)
  simp [setB, casB, this]
theorem setC_miss {C : List Int} {row k was : Int} (h : was ≠ rdAt C (rc row k)) (what : Int) : setC C row k was what = C := by
  have : (rdAt C (rc row k) == was) = false := beq_false_of_ne (fun e => h e.symm)
  simp [setC, casAt, casB, this]
theorem look_congr {C C' : List Int} {row k : Int} (h : rdAt C' (rc row k) = rdAt C (rc row k)) : lookA C' row k = lookA C row k ∧ lookW C' row k = lookW C row k ∧ lookB C' row k = lookB C row k := by
  unfold lookA lookW lookB
  rw [h]; exact ⟨rfl, rfl, rfl⟩
theorem look_word {C : List Int} {row k what : Int} (ho : okN k = true) (hw : 0 ≤ what ∧ what ≤ 1073741824) (h : rdAt C (rc row k) = wordOf k what) : lookA C row k = what ∧ lookB C row k = true := by
  have ho' : 1 ≤ k ∧ k ≤ 2147483647 := by simpa [okN] using ho
  have e1 : wordOf k what / 4294967296 = k := by unfold wordOf; omega
  have e2 : wordOf k what % 4294967296 = what + 1 := by unfold wordOf; omega
  unfold lookA lookB
  rw [h, e1, e2, ho]
  simp
theorem lookW_in {C : List Int} {row k : Int} (ho : okN k = true) : lookW C row k = rdAt C (rc row k) := by unfold lookW; rw [if_pos ho]
theorem rc_apart (j k : Int) : rc 0 j ≠ rc 1 k := by unfold rc; omega
theorem rc_head (row k : Int) (hrow : row = 0 ∨ row = 1) : rc row k ≠ 2 := by unfold rc; omega
theorem ok16 {n : Int} (h : 0 ≤ n ∧ n ≤ 65535) : okN (1 + n) = true := by simp [okN]; omega

end Go.Proofs.Ytllibgjajlgnbab.RingKit
