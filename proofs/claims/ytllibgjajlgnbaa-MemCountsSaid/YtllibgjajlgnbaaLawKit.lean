/- The plain laws of cells that the walks of the three laws use. -/
import Derived.Test.YtllibgjajlgnbaaRan
namespace Go.Proofs.Ytllibgjajlgnbaa.LawKit
open Go Go.RowKit Go.Proofs.Ytllibgjajlgnbaa.Only Go.Proofs.Ytllibgjajlgnbaa.Mem Go.Proofs.Ytllibgjajlgnbaa.New Go.Proofs.Ytllibgjajlgnbaa.Args Go.Proofs.Ytllibgjajlgnbaa.Do
set_option linter.unusedVariables false
set_option linter.unusedSimpArgs false

theorem structs_below {ks : List IntKind} {w w' : World} {v : Value} {zs : List (List Int)} (h : Structs ks w v zs) (hb : Below w.heap.size w w') : Structs ks w' v zs := by
  obtain ⟨⟨a, cap, hv, hl, hx⟩, hr⟩ := h
  refine ⟨⟨a, cap, hv, hl, fun i hi => ?_⟩, hr⟩
  obtain ⟨x, ha, hxb, hc⟩ := hx i hi
  exact ⟨x, ha, Nat.lt_of_lt_of_le hxb hb.size, fun j k hk => (hb.cell (by rw [add_block, add_block]; exact hxb)).trans (hc j k hk)⟩
theorem inC {C : List Int} (h8 : 8 ≤ C.length) {q : Nat} (hq : q < 8) : inR C q = true := by rw [inR_true]; omega
theorem err0 {C : List Int} {a : Int} (h : inR C a = true) : errAt C a = 0 := by unfold errAt; rw [if_pos h]
theorem rd_set {C : List Int} {q : Nat} (hq : q < C.length) (x : Int) : rdAt (C.set q x) q = x := by
  unfold rdAt
  rw [if_pos (by rw [inR_true]; simp; omega)]
  simp [List.getD, hq]
theorem cas_hit {C : List Int} {q : Nat} (h : inR C q = true) : casB C q (rdAt C q) = true := by unfold casB; rw [h]; simp
theorem cas_set {C : List Int} {q : Nat} (h : inR C q = true) (x : Int) : casAt C q (rdAt C q) x = C.set q x := by
  unfold casAt setAt; rw [cas_hit h, h]; rfl
theorem cas_miss {C : List Int} {q : Nat} (hq : q < C.length) {x o : Int} (hx : x ≠ o) : casB (C.set q x) q o = false := by
  unfold casB; rw [rd_set hq]; simp [hx]
theorem cas_keep {C : List Int} {q : Nat} (hq : q < C.length) {x o : Int} (hx : x ≠ o) (y : Int) : casAt (C.set q x) q o y = C.set q x := by
  unfold casAt; rw [cas_miss hq hx]; rfl

theorem setAt_other {C : List Int} {a : Int} {q : Nat} (hq : q < C.length) (h : a ≠ q) (x : Int) : rdAt (setAt C a x) q = rdAt C q := by
  unfold rdAt
  have e : inR (setAt C a x) q = inR C q := by unfold inR; rw [setAt_length]
  rw [e]
  unfold setAt
  by_cases hi : inR C a = true
  · rw [if_pos hi]
    have h0 := (inR_true.1 hi).1
    have hne : a.toNat ≠ q := by omega
    simp [List.getD, List.getElem?_set, hne]
  · rw [if_neg hi]
theorem rd_append {C D : List Int} {q : Nat} (hq : q < C.length) : rdAt (C ++ D) q = rdAt C q := by
  unfold rdAt
  rw [if_pos (by rw [inR_true]; simp; omega), if_pos (by rw [inR_true]; omega)]
  simp [List.getD, List.getElem?_append_left hq]
theorem doC_other {C : List Int} (k a o x : Int) {q : Nat} (hq : q < C.length) (h : a ≠ q) : rdAt (doC C k a o x) q = rdAt C q := by
  unfold doC
  split; rfl
  split; exact setAt_other hq h x
  split
  · unfold casAt; split; exact setAt_other hq h x; rfl
  split; exact setAt_other hq h _
  split; rfl
  exact rd_append hq
end Go.Proofs.Ytllibgjajlgnbaa.LawKit
