-- Laid by the kit's print tool for this claim's functions, and turned where it fell; Lean checks it.
import Derived.Test.YtpblbokdeappgabQx0
import Derived.Test.YtpblbokdeappgabQx2
namespace Go.Proofs.Ytpblbokdeappgab.Q
open Go.RowKit Go.Proofs.YtpblbokdeappgabW.PrintWords Go.Proofs.YtpblbokdeappgabW.PrintLast Go.Proofs.YtpblbokdeappgabW.PrintMore
attribute [local go_sem] Go.Proofs.Ytpblbokdeappgab.Str.max2_str Go.Proofs.Ytpblbokdeappgab.Str.min2_str Go.Proofs.Ytpblbokdeappgab.Str.leq_law Go.Proofs.Ytpblbokdeappgab.Str.gtr_law Go.Proofs.Ytpblbokdeappgab.Str.geq_law max2_int min2_int max_two min_two max_three min_three max_four min_four   -- for this text's walks alone
set_option linter.unusedVariables false
set_option linter.unusedSimpArgs false

/-! ### impostref04_Meet: function 20 -/
mutual
def impostref04_Meet.j0 : Nat → ByteArray → ByteArray → ByteArray → ByteArray → Option (ByteArray × ByteArray × Bool)
  | 0, _, _, _, _ => none
  | k + 1, x163000, x163001, x165000, x165001 => if x165001.toList = ([] : List UInt8) then (impostref04_Meet.j1 k true x163000 x163001 x165000 x165001) else (if x163001.toList = ([] : List UInt8) then (impostref04_Meet.j1 k false x163000 x163001 x165000 x165001) else (impostref04_Meet.j1 k (Op.bytesLess x163001.toList x165001.toList) x163000 x163001 x165000 x165001))
def impostref04_Meet.j1 : Nat → Bool → ByteArray → ByteArray → ByteArray → ByteArray → Option (ByteArray × ByteArray × Bool)
  | 0, _, _, _, _, _ => none
  | k + 1, x30, x163000, x163001, x165000, x165001 => if x30 = true then ((impostref04_Empty.f x165000 x163001).bind fun t165 => (if t165 = true then (some ((⟨#[]⟩ : ByteArray), (⟨#[]⟩ : ByteArray), false)) else (some (x165000, x163001, true)))) else ((impostref04_Empty.f x165000 x165001).bind fun t166 => (if t166 = true then (some ((⟨#[]⟩ : ByteArray), (⟨#[]⟩ : ByteArray), false)) else (some (x165000, x165001, true))))
end
def impostref04_Meet.f (k : Nat) (a0_0 : ByteArray) (a0_1 : ByteArray) (a1_0 : ByteArray) (a1_1 : ByteArray) : Option (ByteArray × ByteArray × Bool) := if (Op.bytesLess a0_0.toList a1_0.toList) = true then (impostref04_Meet.j0 k a1_0 a1_1 a1_0 a0_1) else (impostref04_Meet.j0 k a1_0 a1_1 a0_0 a0_1)
theorem impostref04_Meet.mono_l : ∀ k, (∀ y0 y1 y2 y3, LeO (impostref04_Meet.j0 k y0 y1 y2 y3) (impostref04_Meet.j0 (k + 1) y0 y1 y2 y3)) ∧ (∀ y0 y1 y2 y3 y4, LeO (impostref04_Meet.j1 k y0 y1 y2 y3 y4) (impostref04_Meet.j1 (k + 1) y0 y1 y2 y3 y4))
  | 0 => ⟨fun _ _ _ _ r h => by simp [impostref04_Meet.j0] at h, fun _ _ _ _ _ r h => by simp [impostref04_Meet.j1] at h⟩
  | k + 1 => by
    obtain ⟨ih0, ih1⟩ := impostref04_Meet.mono_l k
    refine ⟨?_, ?_⟩
    · intro y0 y1 y2 y3
      unfold impostref04_Meet.j0
      repeat' first
      | (with_reducible exact ih0 _ _ _ _)
      | (with_reducible exact ih1 _ _ _ _ _)
      | (with_reducible exact LeO.refl _)
      | (with_reducible exact LeO.none _)
      | (with_reducible refine LeO.ite ?_ ?_)
      | (with_reducible refine LeO.bind ?_ (fun _ => ?_))
      | exact ih0 _ _ _ _
      | exact ih1 _ _ _ _ _
      | exact LeO.none _
      | refine LeO.ite ?_ ?_
      | refine LeO.bind ?_ (fun _ => ?_)
    · intro y0 y1 y2 y3 y4
      unfold impostref04_Meet.j1
      repeat' first
      | (with_reducible exact ih0 _ _ _ _)
      | (with_reducible exact ih1 _ _ _ _ _)
      | (with_reducible exact LeO.refl _)
      | (with_reducible exact LeO.none _)
      | (with_reducible refine LeO.ite ?_ ?_)
      | (with_reducible refine LeO.bind ?_ (fun _ => ?_))
      | exact ih0 _ _ _ _
      | exact ih1 _ _ _ _ _
      | exact LeO.none _
      | refine LeO.ite ?_ ?_
      | refine LeO.bind ?_ (fun _ => ?_)
theorem impostref04_Meet.mono : ∀ a0 a1 a2 a3 k, LeO (impostref04_Meet.f k a0 a1 a2 a3) (impostref04_Meet.f (k + 1) a0 a1 a2 a3) := by
  intro a0 a1 a2 a3 k
  obtain ⟨ih0, ih1⟩ := impostref04_Meet.mono_l k
  unfold impostref04_Meet.f
  repeat' first
      | (with_reducible exact ih0 _ _ _ _)
      | (with_reducible exact ih1 _ _ _ _ _)
      | (with_reducible exact LeO.refl _)
      | (with_reducible exact LeO.none _)
      | (with_reducible refine LeO.ite ?_ ?_)
      | (with_reducible refine LeO.bind ?_ (fun _ => ?_))
      | exact ih0 _ _ _ _
      | exact ih1 _ _ _ _ _
      | exact LeO.none _
      | refine LeO.ite ?_ ?_
      | refine LeO.bind ?_ (fun _ => ?_)
set_option maxHeartbeats 8000000 in
set_option maxRecDepth 100000 in
theorem impostref04_Meet.calls (k : Nat) (a0_0 : ByteArray) (a0_1 : ByteArray) (a1_0 : ByteArray) (a1_1 : ByteArray) (r1 : ByteArray) (r2 : ByteArray) (r3 : Bool) (w : World) (h : impostref04_Meet.f k a0_0 a0_1 a1_0 a1_1 = some (r1, r2, r3)) :
    Calls Try.prog 20 #[.agg #[.string a0_0, .string a0_1], .agg #[.string a1_0, .string a1_1]] w fun e w' => e = .returned (.tuple #[.agg #[.string r1, .string r2], .bool r3]) ∧ Below w.heap.size w w' := by
  have hu23 := Try.underlying23
  have HB := Aside0.mk (Below.refl w.heap.size w)
  have H : (if (Op.bytesLess a0_0.toList a1_0.toList) = true then (impostref04_Meet.j0 k a1_0 a1_1 a1_0 a0_1) else (impostref04_Meet.j0 k a1_0 a1_1 a0_0 a0_1)) = some (r1, r2, r3) := h
  clear h
  have HC3 := Aside0.mk H
  clear H
  go_enter Try.func20, Try.ntmps20
  go_upto_if 12 with (first | ((with_reducible refine gate_dst (N := 2) rfl ?_); refine box_event ?hg (N := 2) ?hd (cs := #[.string a0_0, .string a0_1]) (t := 23) ?hr ?_; (case hd => rfl); (case hg => rfl); (case hr => first | (go_simp; done) | (go_simp; rfl)); intro gb161 hg w4 hbox hb; have n0_ := Aside0.mk (below_step (by repeat (first | (with_reducible first | exact HB.out | apply below_alloc | apply pw_below_drewN | apply below_drew1) | exact HB.out)) hb); have n1_ := Aside0.mk (hbox); have n2_ := Aside0.mk ((by rw [hg]; exact (below_size (by repeat (first | (with_reducible first | exact HB.out | apply below_alloc | apply pw_below_drewN | apply below_drew1) | exact HB.out))) : w.heap.size ≤ gb161)); have n3_ := Aside0.mk ((by rw [hg]; exact (below_size (by repeat (first | (with_reducible first | exact HB.out | apply below_alloc | apply pw_below_drewN | apply below_drew1) | exact HB.out))) : w.heap.size ≤ gb161)); clear HB; have HB := n0_; have BK161 := n1_; have GW161 := n2_; have GE161 := n3_; clear n0_ n1_ n2_ n3_; clear hb hbox hg) | ((with_reducible refine gate_dst (N := 3) rfl ?_); refine box_event ?hg (N := 3) ?hd (cs := #[.string a1_0, .string a1_1]) (t := 23) ?hr ?_; (case hd => rfl); (case hg => rfl); (case hr => first | (go_simp; done) | (go_simp; rfl)); intro gb162 hg w5 hbox hb; have n0_ := Aside0.mk (blk_below (g := gb161) (o := .cells #[.string a0_0, .string a0_1] 23 (0, 0)) (by (with_reducible repeat (first | refine blk_drewN ?_ _ | refine blk_drew ?_ | refine blk_alloc ?_ _)); exact BK161.out) hb); have n1_ := Aside0.mk (below_step (by repeat (first | (with_reducible first | exact HB.out | apply below_alloc | apply pw_below_drewN | apply below_drew1 | refine below_set ?_ GE161.out) | exact HB.out)) hb); have n2_ := Aside0.mk (hbox); have n3_ := Aside0.mk ((by rw [hg]; exact (below_size (by repeat (first | (with_reducible first | exact HB.out | apply below_alloc | apply pw_below_drewN | apply below_drew1 | refine below_set ?_ GE161.out) | exact HB.out))) : w.heap.size ≤ gb162)); have n4_ := Aside0.mk ((by rw [hg]; exact (below_size (by repeat (first | (with_reducible first | exact HB.out | apply below_alloc | apply pw_below_drewN | apply below_drew1 | refine below_set ?_ GE161.out) | exact HB.out))) : w.heap.size ≤ gb162)); have n5_ := Aside0.mk ((by rw [hg]; exact Nat.ne_of_lt (blk_lt (g := gb161) (o := .cells #[.string a0_0, .string a0_1] 23 (0, 0)) (by (with_reducible repeat (first | refine blk_drewN ?_ _ | refine blk_drew ?_ | refine blk_alloc ?_ _)); exact BK161.out)) : gb161 ≠ gb162)); have n6_ := Aside0.mk ((by rw [hg]; exact Nat.ne_of_gt (blk_lt (g := gb161) (o := .cells #[.string a0_0, .string a0_1] 23 (0, 0)) (by (with_reducible repeat (first | refine blk_drewN ?_ _ | refine blk_drew ?_ | refine blk_alloc ?_ _)); exact BK161.out)) : gb162 ≠ gb161)); clear BK161; clear HB; have BK161 := n0_; have HB := n1_; have BK162 := n2_; have GW162 := n3_; have GE162 := n4_; have NB161_162 := n5_; have NB162_161 := n6_; clear n0_ n1_ n2_ n3_ n4_ n5_ n6_; clear hb hbox hg) | ((with_reducible refine gate_dst (N := 4) rfl ?_); refine box_event ?hg (N := 4) ?hd (cs := #[.string (⟨#[]⟩ : ByteArray), .string (⟨#[]⟩ : ByteArray)]) (t := 23) ?hr ?_; (case hd => rfl); (case hg => rfl); (case hr => first | (go_simp; done) | (go_simp; rfl)); intro gb163 hg w6 hbox hb; have n0_ := Aside0.mk (blk_below (g := gb161) (o := .cells #[.string a0_0, .string a0_1] 23 (0, 0)) (by (with_reducible repeat (first | refine blk_drewN ?_ _ | refine blk_drew ?_ | refine blk_alloc ?_ _)); exact BK161.out) hb); have n1_ := Aside0.mk (blk_below (g := gb162) (o := .cells #[.string a1_0, .string a1_1] 23 (0, 0)) (by (with_reducible repeat (first | refine blk_drewN ?_ _ | refine blk_drew ?_ | refine blk_alloc ?_ _)); exact BK162.out) hb); have n2_ := Aside0.mk (below_step (by repeat (first | (with_reducible first | exact HB.out | apply below_alloc | apply pw_below_drewN | apply below_drew1 | refine below_set ?_ GE161.out | refine below_set ?_ GE162.out) | exact HB.out)) hb); have n3_ := Aside0.mk (hbox); have n4_ := Aside0.mk ((by rw [hg]; exact (below_size (by repeat (first | (with_reducible first | exact HB.out | apply below_alloc | apply pw_below_drewN | apply below_drew1 | refine below_set ?_ GE161.out | refine below_set ?_ GE162.out) | exact HB.out))) : w.heap.size ≤ gb163)); have n5_ := Aside0.mk ((by rw [hg]; exact (below_size (by repeat (first | (with_reducible first | exact HB.out | apply below_alloc | apply pw_below_drewN | apply below_drew1 | refine below_set ?_ GE161.out | refine below_set ?_ GE162.out) | exact HB.out))) : w.heap.size ≤ gb163)); have n6_ := Aside0.mk ((by rw [hg]; exact Nat.ne_of_lt (blk_lt (g := gb161) (o := .cells #[.string a0_0, .string a0_1] 23 (0, 0)) (by (with_reducible repeat (first | refine blk_drewN ?_ _ | refine blk_drew ?_ | refine blk_alloc ?_ _)); exact BK161.out)) : gb161 ≠ gb163)); have n7_ := Aside0.mk ((by rw [hg]; exact Nat.ne_of_gt (blk_lt (g := gb161) (o := .cells #[.string a0_0, .string a0_1] 23 (0, 0)) (by (with_reducible repeat (first | refine blk_drewN ?_ _ | refine blk_drew ?_ | refine blk_alloc ?_ _)); exact BK161.out)) : gb163 ≠ gb161)); have n8_ := Aside0.mk ((by rw [hg]; exact Nat.ne_of_lt (blk_lt (g := gb162) (o := .cells #[.string a1_0, .string a1_1] 23 (0, 0)) (by (with_reducible repeat (first | refine blk_drewN ?_ _ | refine blk_drew ?_ | refine blk_alloc ?_ _)); exact BK162.out)) : gb162 ≠ gb163)); have n9_ := Aside0.mk ((by rw [hg]; exact Nat.ne_of_gt (blk_lt (g := gb162) (o := .cells #[.string a1_0, .string a1_1] 23 (0, 0)) (by (with_reducible repeat (first | refine blk_drewN ?_ _ | refine blk_drew ?_ | refine blk_alloc ?_ _)); exact BK162.out)) : gb163 ≠ gb162)); clear BK161; clear BK162; clear HB; have BK161 := n0_; have BK162 := n1_; have HB := n2_; have BK163 := n3_; have GW163 := n4_; have GE163 := n5_; have NB161_163 := n6_; have NB163_161 := n7_; have NB162_163 := n8_; have NB163_162 := n9_; clear n0_ n1_ n2_ n3_ n4_ n5_ n6_ n7_ n8_ n9_; clear hb hbox hg; have hnb7 := NB161_162.out; have hnc7 := NB162_161.out; have hnb8 := NB161_163.out; have hnc8 := NB163_161.out; have hcz9_0 : w6.cell? ⟨gb161, 0, none⟩ = some (.string a0_0) := (blk_cell BK161.out 0).trans rfl; have hcz9_1 : w6.cell? ⟨gb161, 1, none⟩ = some (.string a0_1) := (blk_cell BK161.out 1).trans rfl; have hfz9_0 := blk_frozen BK161.out 0; have hfz9_1 := blk_frozen BK161.out 1) | ((with_reducible refine gate_dst (N := 6) rfl ?_); refine box_event ?hg (N := 6) ?hd (cs := #[.string (⟨#[]⟩ : ByteArray), .string (⟨#[]⟩ : ByteArray)]) (t := 23) ?hr ?_; (case hd => rfl); (case hg => rfl); (case hr => first | (go_simp; done) | (go_simp; rfl)); intro gb164 hg w10 hbox hb; have n0_ := Aside0.mk (blk_below (g := gb161) (o := .cells #[.string a0_0, .string a0_1] 23 (0, 0)) (by (with_reducible repeat (first | refine blk_drewN ?_ _ | refine blk_drew ?_ | refine blk_alloc ?_ _)); exact BK161.out) hb); have n1_ := Aside0.mk (blk_below (g := gb162) (o := .cells #[.string a1_0, .string a1_1] 23 (0, 0)) (by (with_reducible repeat (first | refine blk_drewN ?_ _ | refine blk_drew ?_ | refine blk_alloc ?_ _)); exact BK162.out) hb); have n2_ := Aside0.mk (blk_below (g := gb163) (o := .cells #[.string (⟨#[]⟩ : ByteArray), .string (⟨#[]⟩ : ByteArray)] 23 (0, 0)) (by (with_reducible repeat (first | refine blk_drewN ?_ _ | refine blk_drew ?_ | refine blk_alloc ?_ _)); exact BK163.out) hb); have n3_ := Aside0.mk (below_step (by repeat (first | (with_reducible first | exact HB.out | apply below_alloc | apply pw_below_drewN | apply below_drew1 | refine below_set ?_ GE161.out | refine below_set ?_ GE162.out | refine below_set ?_ GE163.out) | exact HB.out)) hb); have n4_ := Aside0.mk (hbox); have n5_ := Aside0.mk ((by rw [hg]; exact (below_size (by repeat (first | (with_reducible first | exact HB.out | apply below_alloc | apply pw_below_drewN | apply below_drew1 | refine below_set ?_ GE161.out | refine below_set ?_ GE162.out | refine below_set ?_ GE163.out) | exact HB.out))) : w.heap.size ≤ gb164)); have n6_ := Aside0.mk ((by rw [hg]; exact (below_size (by repeat (first | (with_reducible first | exact HB.out | apply below_alloc | apply pw_below_drewN | apply below_drew1 | refine below_set ?_ GE161.out | refine below_set ?_ GE162.out | refine below_set ?_ GE163.out) | exact HB.out))) : w.heap.size ≤ gb164)); have n7_ := Aside0.mk ((by rw [hg]; exact Nat.ne_of_lt (blk_lt (g := gb161) (o := .cells #[.string a0_0, .string a0_1] 23 (0, 0)) (by (with_reducible repeat (first | refine blk_drewN ?_ _ | refine blk_drew ?_ | refine blk_alloc ?_ _)); exact BK161.out)) : gb161 ≠ gb164)); have n8_ := Aside0.mk ((by rw [hg]; exact Nat.ne_of_gt (blk_lt (g := gb161) (o := .cells #[.string a0_0, .string a0_1] 23 (0, 0)) (by (with_reducible repeat (first | refine blk_drewN ?_ _ | refine blk_drew ?_ | refine blk_alloc ?_ _)); exact BK161.out)) : gb164 ≠ gb161)); have n9_ := Aside0.mk ((by rw [hg]; exact Nat.ne_of_lt (blk_lt (g := gb162) (o := .cells #[.string a1_0, .string a1_1] 23 (0, 0)) (by (with_reducible repeat (first | refine blk_drewN ?_ _ | refine blk_drew ?_ | refine blk_alloc ?_ _)); exact BK162.out)) : gb162 ≠ gb164)); have n10_ := Aside0.mk ((by rw [hg]; exact Nat.ne_of_gt (blk_lt (g := gb162) (o := .cells #[.string a1_0, .string a1_1] 23 (0, 0)) (by (with_reducible repeat (first | refine blk_drewN ?_ _ | refine blk_drew ?_ | refine blk_alloc ?_ _)); exact BK162.out)) : gb164 ≠ gb162)); have n11_ := Aside0.mk ((by rw [hg]; exact Nat.ne_of_lt (blk_lt (g := gb163) (o := .cells #[.string (⟨#[]⟩ : ByteArray), .string (⟨#[]⟩ : ByteArray)] 23 (0, 0)) (by (with_reducible repeat (first | refine blk_drewN ?_ _ | refine blk_drew ?_ | refine blk_alloc ?_ _)); exact BK163.out)) : gb163 ≠ gb164)); have n12_ := Aside0.mk ((by rw [hg]; exact Nat.ne_of_gt (blk_lt (g := gb163) (o := .cells #[.string (⟨#[]⟩ : ByteArray), .string (⟨#[]⟩ : ByteArray)] 23 (0, 0)) (by (with_reducible repeat (first | refine blk_drewN ?_ _ | refine blk_drew ?_ | refine blk_alloc ?_ _)); exact BK163.out)) : gb164 ≠ gb163)); clear BK161; clear BK162; clear BK163; clear HB; have BK161 := n0_; have BK162 := n1_; have BK163 := n2_; have HB := n3_; have BK164 := n4_; have GW164 := n5_; have GE164 := n6_; have NB161_164 := n7_; have NB164_161 := n8_; have NB162_164 := n9_; have NB164_162 := n10_; have NB163_164 := n11_; have NB164_163 := n12_; clear n0_ n1_ n2_ n3_ n4_ n5_ n6_ n7_ n8_ n9_ n10_ n11_ n12_; clear hb hbox hg; have hnb11 := NB164_161.out; have hnc11 := NB161_164.out; have hnb12 := NB164_162.out; have hnc12 := NB162_164.out; have hnb13 := NB164_163.out; have hnc13 := NB163_164.out; have hcz14_0 : w10.cell? ⟨gb164, 0, none⟩ = some (.string (⟨#[]⟩ : ByteArray)) := (blk_cell BK164.out 0).trans rfl; have hcz14_1 : w10.cell? ⟨gb164, 1, none⟩ = some (.string (⟨#[]⟩ : ByteArray)) := (blk_cell BK164.out 1).trans rfl; have hfz14_0 := blk_frozen BK164.out 0; have hfz14_1 := blk_frozen BK164.out 1; have hnb15 := NB162_163.out; have hnc15 := NB163_162.out; have hcz16_0 : w10.cell? ⟨gb162, 0, none⟩ = some (.string a1_0) := (blk_cell BK162.out 0).trans rfl; have hcz16_1 : w10.cell? ⟨gb162, 1, none⟩ = some (.string a1_1) := (blk_cell BK162.out 1).trans rfl; have hfz16_0 := blk_frozen BK162.out 0; have hfz16_1 := blk_frozen BK162.out 1))
  (try simp only [Act.put, List.setIfInBounds_toArray, List.set_cons_zero, List.set_cons_succ])
  go_cut [] (fun wc => ∃ (kq : Nat) (x165000_2 : ByteArray), Aside0 (impostref04_Meet.j0 kq a1_0 a1_1 x165000_2 a0_1 = some (r1, r2, r3)) ∧ Aside0 (kq ≤ k) ∧ Aside0 (wc.heap[gb161]? = some (.cells #[.string a0_0, .string a0_1] 23 (0, 0))) ∧ Aside0 (wc.heap[gb162]? = some (.cells #[.string a1_0, .string a1_1] 23 (0, 0))) ∧ Aside0 (wc.heap[gb163]? = some (.cells #[.string (⟨#[]⟩ : ByteArray), .string (⟨#[]⟩ : ByteArray)] 23 (0, 0))) ∧ Aside0 (wc.heap[gb164]? = some (.cells #[.string x165000_2, .string a0_1] 23 (0, 0))) ∧ Aside0 (Below w.heap.size w wc))
  case first =>
    have H := HC3.out
    clear HC3
    by_cases c17 : (Op.bytesLess a0_0.toList a1_0.toList) = true
    · rw [if_pos c17] at H
      have c17b0 : (Op.bytesLess a0_0.toList a1_0.toList) = true := c17
      clear c17
      (first | rw [c17b0] | (simp only [i64_w, i32_w]; rw [c17b0]) | skip)
      have H' := Aside0.mk H
      clear H
      have hnb18 := NB162_161.out
      have hnc18 := NB161_162.out
      have hnb19 := NB162_163.out
      have hnc19 := NB163_162.out
      have hnb20 := NB162_164.out
      have hnc20 := NB164_162.out
      have hcz21_0 : w10.cell? ⟨gb162, 0, none⟩ = some (.string a1_0) := (blk_cell BK162.out 0).trans rfl
      have hcz21_1 : w10.cell? ⟨gb162, 1, none⟩ = some (.string a1_1) := (blk_cell BK162.out 1).trans rfl
      have hfz21_0 := blk_frozen BK162.out 0
      have hfz21_1 := blk_frozen BK162.out 1
      have hnb22 := NB164_161.out
      have hnc22 := NB161_164.out
      have hnb23 := NB164_163.out
      have hnc23 := NB163_164.out
      have hcz24_0 : w10.cell? ⟨gb164, 0, none⟩ = some (.string (⟨#[]⟩ : ByteArray)) := (blk_cell BK164.out 0).trans rfl
      have hcz24_1 : w10.cell? ⟨gb164, 1, none⟩ = some (.string (⟨#[]⟩ : ByteArray)) := (blk_cell BK164.out 1).trans rfl
      have hfz24_0 := blk_frozen BK164.out 0
      have hfz24_1 := blk_frozen BK164.out 1
      go_wp2
      go_meet
      case rel => exact ⟨_, (a1_0), H', ⟨by first | omega | exact Nat.le_refl _⟩, ⟨by (with_reducible repeat (first | refine blk_drewN ?_ _ | refine blk_drew ?_ | refine blk_alloc ?_ _)); refine blk_far ?_ NB161_164.out _; (with_reducible repeat (first | refine blk_drewN ?_ _ | refine blk_drew ?_ | refine blk_alloc ?_ _)); refine blk_far ?_ NB161_164.out _; (with_reducible repeat (first | refine blk_drewN ?_ _ | refine blk_drew ?_ | refine blk_alloc ?_ _)); refine blk_far ?_ NB161_164.out _; (with_reducible repeat (first | refine blk_drewN ?_ _ | refine blk_drew ?_ | refine blk_alloc ?_ _)); exact BK161.out⟩, ⟨by (with_reducible repeat (first | refine blk_drewN ?_ _ | refine blk_drew ?_ | refine blk_alloc ?_ _)); refine blk_far ?_ NB162_164.out _; (with_reducible repeat (first | refine blk_drewN ?_ _ | refine blk_drew ?_ | refine blk_alloc ?_ _)); refine blk_far ?_ NB162_164.out _; (with_reducible repeat (first | refine blk_drewN ?_ _ | refine blk_drew ?_ | refine blk_alloc ?_ _)); refine blk_far ?_ NB162_164.out _; (with_reducible repeat (first | refine blk_drewN ?_ _ | refine blk_drew ?_ | refine blk_alloc ?_ _)); exact BK162.out⟩, ⟨by (with_reducible repeat (first | refine blk_drewN ?_ _ | refine blk_drew ?_ | refine blk_alloc ?_ _)); refine blk_far ?_ NB163_164.out _; (with_reducible repeat (first | refine blk_drewN ?_ _ | refine blk_drew ?_ | refine blk_alloc ?_ _)); refine blk_far ?_ NB163_164.out _; (with_reducible repeat (first | refine blk_drewN ?_ _ | refine blk_drew ?_ | refine blk_alloc ?_ _)); refine blk_far ?_ NB163_164.out _; (with_reducible repeat (first | refine blk_drewN ?_ _ | refine blk_drew ?_ | refine blk_alloc ?_ _)); exact BK163.out⟩, ⟨by (with_reducible repeat (first | refine blk_drewN ?_ _ | refine blk_drew ?_ | refine blk_alloc ?_ _)); refine blk_put (cs := #[.string a0_0, .string a0_1]) ?_ 0 _ rfl; (with_reducible repeat (first | refine blk_drewN ?_ _ | refine blk_drew ?_ | refine blk_alloc ?_ _)); refine blk_put (cs := #[.string a0_0, .string (⟨#[]⟩ : ByteArray)]) ?_ 1 _ rfl; (with_reducible repeat (first | refine blk_drewN ?_ _ | refine blk_drew ?_ | refine blk_alloc ?_ _)); refine blk_put (cs := #[.string (⟨#[]⟩ : ByteArray), .string (⟨#[]⟩ : ByteArray)]) ?_ 0 _ rfl; (with_reducible repeat (first | refine blk_drewN ?_ _ | refine blk_drew ?_ | refine blk_alloc ?_ _)); exact BK164.out⟩, ⟨by repeat (first | (with_reducible first | exact HB.out | apply below_alloc | apply pw_below_drewN | apply below_drew1 | refine below_set ?_ GE161.out | refine below_set ?_ GE162.out | refine below_set ?_ GE163.out | refine below_set ?_ GE164.out) | exact HB.out)⟩⟩
    · rw [if_neg c17] at H
      have c17b0 : (Op.bytesLess a0_0.toList a1_0.toList) = false := by simpa using c17
      clear c17
      (first | rw [c17b0] | (simp only [i64_w, i32_w]; rw [c17b0]) | skip)
      have H' := Aside0.mk H
      clear H
      go_wp2
      go_meet
      case rel => exact ⟨_, (a0_0), H', ⟨by first | omega | exact Nat.le_refl _⟩, ⟨by (with_reducible repeat (first | refine blk_drewN ?_ _ | refine blk_drew ?_ | refine blk_alloc ?_ _)); refine blk_far ?_ NB161_164.out _; (with_reducible repeat (first | refine blk_drewN ?_ _ | refine blk_drew ?_ | refine blk_alloc ?_ _)); refine blk_far ?_ NB161_164.out _; (with_reducible repeat (first | refine blk_drewN ?_ _ | refine blk_drew ?_ | refine blk_alloc ?_ _)); exact BK161.out⟩, ⟨by (with_reducible repeat (first | refine blk_drewN ?_ _ | refine blk_drew ?_ | refine blk_alloc ?_ _)); refine blk_far ?_ NB162_164.out _; (with_reducible repeat (first | refine blk_drewN ?_ _ | refine blk_drew ?_ | refine blk_alloc ?_ _)); refine blk_far ?_ NB162_164.out _; (with_reducible repeat (first | refine blk_drewN ?_ _ | refine blk_drew ?_ | refine blk_alloc ?_ _)); exact BK162.out⟩, ⟨by (with_reducible repeat (first | refine blk_drewN ?_ _ | refine blk_drew ?_ | refine blk_alloc ?_ _)); refine blk_far ?_ NB163_164.out _; (with_reducible repeat (first | refine blk_drewN ?_ _ | refine blk_drew ?_ | refine blk_alloc ?_ _)); refine blk_far ?_ NB163_164.out _; (with_reducible repeat (first | refine blk_drewN ?_ _ | refine blk_drew ?_ | refine blk_alloc ?_ _)); exact BK163.out⟩, ⟨by (with_reducible repeat (first | refine blk_drewN ?_ _ | refine blk_drew ?_ | refine blk_alloc ?_ _)); refine blk_put (cs := #[.string a0_0, .string (⟨#[]⟩ : ByteArray)]) ?_ 1 _ rfl; (with_reducible repeat (first | refine blk_drewN ?_ _ | refine blk_drew ?_ | refine blk_alloc ?_ _)); refine blk_put (cs := #[.string (⟨#[]⟩ : ByteArray), .string (⟨#[]⟩ : ByteArray)]) ?_ 0 _ rfl; (with_reducible repeat (first | refine blk_drewN ?_ _ | refine blk_drew ?_ | refine blk_alloc ?_ _)); exact BK164.out⟩, ⟨by repeat (first | (with_reducible first | exact HB.out | apply below_alloc | apply pw_below_drewN | apply below_drew1 | refine below_set ?_ GE161.out | refine below_set ?_ GE162.out | refine below_set ?_ GE163.out | refine below_set ?_ GE164.out) | exact HB.out)⟩⟩
  case rest =>
    clear HC3
    try clear c1
    try clear c2
    try clear p2
    try clear c7
    try clear c8
    try clear c11
    try clear c12
    try clear c13
    try clear c15
    try clear c17
    try clear c17b0
    try clear c18
    try clear c19
    try clear c20
    try clear c22
    try clear c23
    try clear hcz14_0
    try clear hcz14_1
    try clear hcz16_0
    try clear hcz16_1
    try clear hcz21_0
    try clear hcz21_1
    try clear hcz24_0
    try clear hcz24_1
    try clear hcz9_0
    try clear hcz9_1
    try clear hfz14_0
    try clear hfz14_1
    try clear hfz16_0
    try clear hfz16_1
    try clear hfz21_0
    try clear hfz21_1
    try clear hfz24_0
    try clear hfz24_1
    try clear hfz9_0
    try clear hfz9_1
    obtain ⟨kq, x165000_2, HA, HJ2, BK161, BK162, BK163, BK164, HB⟩ := hcut
    cases kq with
    | zero => exact absurd HA.out (by simp [impostref04_Meet.j0])
    | succ kj2 =>
      have H := HA.out
      clear HA
      simp only [impostref04_Meet.j0] at H
      have HC25 := Aside0.mk H
      clear H
      go_upto_region 4 with (fail)
      go_cut [30] (fun v30 wc => ∃ (kq : Nat) (x30_24 : Bool), v30 = .bool x30_24 ∧ Aside0 (impostref04_Meet.j1 kq x30_24 a1_0 a1_1 x165000_2 a0_1 = some (r1, r2, r3)) ∧ Aside0 (kq ≤ kj2) ∧ Aside0 (wc.heap[gb161]? = some (.cells #[.string a0_0, .string a0_1] 23 (0, 0))) ∧ Aside0 (wc.heap[gb162]? = some (.cells #[.string a1_0, .string a1_1] 23 (0, 0))) ∧ Aside0 (wc.heap[gb163]? = some (.cells #[.string (⟨#[]⟩ : ByteArray), .string (⟨#[]⟩ : ByteArray)] 23 (0, 0))) ∧ Aside0 (wc.heap[gb164]? = some (.cells #[.string x165000_2, .string a0_1] 23 (0, 0))) ∧ Aside0 (Below w.heap.size w wc))
      case first =>
        have H := HC25.out
        clear HC25
        by_cases c26 : a0_1.toList = ([] : List UInt8)
        · rw [if_pos c26] at H
          have c26b0 : (a0_1.toList == ([] : List UInt8)) = true := beq_iff_eq.mpr c26
          have c26b1 : (a0_1.toList != ([] : List UInt8)) = false := bne_eq_false_iff_eq.mpr c26
          clear c26
          (first | rw [c26b0] | (simp only [i64_w, i32_w]; rw [c26b0]) | skip)
          have H' := Aside0.mk H
          clear H
          have hnb27 := NB164_161.out
          have hnc27 := NB161_164.out
          have hnb28 := NB164_162.out
          have hnc28 := NB162_164.out
          have hnb29 := NB164_163.out
          have hnc29 := NB163_164.out
          have hcz30_0 : wc.cell? ⟨gb164, 0, none⟩ = some (.string x165000_2) := (blk_cell BK164.out 0).trans rfl
          have hcz30_1 : wc.cell? ⟨gb164, 1, none⟩ = some (.string a0_1) := (blk_cell BK164.out 1).trans rfl
          have hfz30_0 := blk_frozen BK164.out 0
          have hfz30_1 := blk_frozen BK164.out 1
          go_wp2
          go_meet
          case rel => exact ⟨_, (true), (by first | rfl | (simp; done) | (simp [*]; done)), H', ⟨by have := HJ2.out; first | omega | exact Nat.le_refl _⟩, ⟨by (with_reducible repeat (first | refine blk_drewN ?_ _ | refine blk_drew ?_ | refine blk_alloc ?_ _)); exact BK161.out⟩, ⟨by (with_reducible repeat (first | refine blk_drewN ?_ _ | refine blk_drew ?_ | refine blk_alloc ?_ _)); exact BK162.out⟩, ⟨by (with_reducible repeat (first | refine blk_drewN ?_ _ | refine blk_drew ?_ | refine blk_alloc ?_ _)); exact BK163.out⟩, ⟨by (with_reducible repeat (first | refine blk_drewN ?_ _ | refine blk_drew ?_ | refine blk_alloc ?_ _)); exact BK164.out⟩, ⟨by repeat (first | (with_reducible first | exact HB.out | apply below_alloc | apply pw_below_drewN | apply below_drew1 | refine below_set ?_ GE161.out | refine below_set ?_ GE162.out | refine below_set ?_ GE163.out | refine below_set ?_ GE164.out) | exact HB.out)⟩⟩
        · rw [if_neg c26] at H
          have c26b0 : (a0_1.toList == ([] : List UInt8)) = false := beq_eq_false_iff_ne.mpr c26
          have c26b1 : (a0_1.toList != ([] : List UInt8)) = true := bne_iff_ne.mpr c26
          (first | rw [c26b0] | (simp only [i64_w, i32_w]; rw [c26b0]) | skip)
          by_cases c31 : a1_1.toList = ([] : List UInt8)
          · rw [if_pos c31] at H
            have c31b0 : (a1_1.toList == ([] : List UInt8)) = true := beq_iff_eq.mpr c31
            have c31b1 : (a1_1.toList != ([] : List UInt8)) = false := bne_eq_false_iff_eq.mpr c31
            clear c31
            have H' := Aside0.mk H
            clear H
            have hnb32 := NB164_161.out
            have hnc32 := NB161_164.out
            have hnb33 := NB164_162.out
            have hnc33 := NB162_164.out
            have hnb34 := NB164_163.out
            have hnc34 := NB163_164.out
            have hcz35_0 : wc.cell? ⟨gb164, 0, none⟩ = some (.string x165000_2) := (blk_cell BK164.out 0).trans rfl
            have hcz35_1 : wc.cell? ⟨gb164, 1, none⟩ = some (.string a0_1) := (blk_cell BK164.out 1).trans rfl
            have hfz35_0 := blk_frozen BK164.out 0
            have hfz35_1 := blk_frozen BK164.out 1
            have hnb36 := NB162_161.out
            have hnc36 := NB161_162.out
            have hnb37 := NB162_163.out
            have hnc37 := NB163_162.out
            have hcz38_0 : wc.cell? ⟨gb162, 0, none⟩ = some (.string a1_0) := (blk_cell BK162.out 0).trans rfl
            have hcz38_1 : wc.cell? ⟨gb162, 1, none⟩ = some (.string a1_1) := (blk_cell BK162.out 1).trans rfl
            have hfz38_0 := blk_frozen BK162.out 0
            have hfz38_1 := blk_frozen BK162.out 1
            go_wp2
            go_meet
            case rel => exact ⟨_, (false), (by first | rfl | (simp; done) | (simp [*]; done)), H', ⟨by have := HJ2.out; first | omega | exact Nat.le_refl _⟩, ⟨by (with_reducible repeat (first | refine blk_drewN ?_ _ | refine blk_drew ?_ | refine blk_alloc ?_ _)); exact BK161.out⟩, ⟨by (with_reducible repeat (first | refine blk_drewN ?_ _ | refine blk_drew ?_ | refine blk_alloc ?_ _)); exact BK162.out⟩, ⟨by (with_reducible repeat (first | refine blk_drewN ?_ _ | refine blk_drew ?_ | refine blk_alloc ?_ _)); exact BK163.out⟩, ⟨by (with_reducible repeat (first | refine blk_drewN ?_ _ | refine blk_drew ?_ | refine blk_alloc ?_ _)); exact BK164.out⟩, ⟨by repeat (first | (with_reducible first | exact HB.out | apply below_alloc | apply pw_below_drewN | apply below_drew1 | refine below_set ?_ GE161.out | refine below_set ?_ GE162.out | refine below_set ?_ GE163.out | refine below_set ?_ GE164.out) | exact HB.out)⟩⟩
          · rw [if_neg c31] at H
            have c31b0 : (a1_1.toList == ([] : List UInt8)) = false := beq_eq_false_iff_ne.mpr c31
            have c31b1 : (a1_1.toList != ([] : List UInt8)) = true := bne_iff_ne.mpr c31
            have H' := Aside0.mk H
            clear H
            have hnb39 := NB164_161.out
            have hnc39 := NB161_164.out
            have hnb40 := NB164_162.out
            have hnc40 := NB162_164.out
            have hnb41 := NB164_163.out
            have hnc41 := NB163_164.out
            have hcz42_0 : wc.cell? ⟨gb164, 0, none⟩ = some (.string x165000_2) := (blk_cell BK164.out 0).trans rfl
            have hcz42_1 : wc.cell? ⟨gb164, 1, none⟩ = some (.string a0_1) := (blk_cell BK164.out 1).trans rfl
            have hfz42_0 := blk_frozen BK164.out 0
            have hfz42_1 := blk_frozen BK164.out 1
            have hnb43 := NB162_161.out
            have hnc43 := NB161_162.out
            have hnb44 := NB162_163.out
            have hnc44 := NB163_162.out
            have hcz45_0 : wc.cell? ⟨gb162, 0, none⟩ = some (.string a1_0) := (blk_cell BK162.out 0).trans rfl
            have hcz45_1 : wc.cell? ⟨gb162, 1, none⟩ = some (.string a1_1) := (blk_cell BK162.out 1).trans rfl
            have hfz45_0 := blk_frozen BK162.out 0
            have hfz45_1 := blk_frozen BK162.out 1
            go_wp2
            go_meet
            case rel => exact ⟨_, ((Op.bytesLess a1_1.toList a0_1.toList)), (by first | rfl | (simp; done) | (simp [*]; done)), H', ⟨by have := HJ2.out; first | omega | exact Nat.le_refl _⟩, ⟨by (with_reducible repeat (first | refine blk_drewN ?_ _ | refine blk_drew ?_ | refine blk_alloc ?_ _)); exact BK161.out⟩, ⟨by (with_reducible repeat (first | refine blk_drewN ?_ _ | refine blk_drew ?_ | refine blk_alloc ?_ _)); exact BK162.out⟩, ⟨by (with_reducible repeat (first | refine blk_drewN ?_ _ | refine blk_drew ?_ | refine blk_alloc ?_ _)); exact BK163.out⟩, ⟨by (with_reducible repeat (first | refine blk_drewN ?_ _ | refine blk_drew ?_ | refine blk_alloc ?_ _)); exact BK164.out⟩, ⟨by repeat (first | (with_reducible first | exact HB.out | apply below_alloc | apply pw_below_drewN | apply below_drew1 | refine below_set ?_ GE161.out | refine below_set ?_ GE162.out | refine below_set ?_ GE163.out | refine below_set ?_ GE164.out) | exact HB.out)⟩⟩
      case rest =>
        clear HC25
        try clear c1
        try clear c2
        try clear p2
        try clear c3
        try clear c4
        try clear c7
        try clear c8
        try clear c11
        try clear c12
        try clear c13
        try clear c15
        try clear c17
        try clear c17b0
        try clear c18
        try clear c19
        try clear c20
        try clear c22
        try clear c23
        try clear c26
        try clear c26b0
        try clear c26b1
        try clear c27
        try clear c28
        try clear c29
        try clear c31
        try clear c31b0
        try clear c31b1
        try clear c32
        try clear c33
        try clear c34
        try clear c36
        try clear c37
        try clear c39
        try clear c40
        try clear c41
        try clear c43
        try clear c44
        try clear hcz14_0
        try clear hcz14_1
        try clear hcz16_0
        try clear hcz16_1
        try clear hcz21_0
        try clear hcz21_1
        try clear hcz24_0
        try clear hcz24_1
        try clear hcz30_0
        try clear hcz30_1
        try clear hcz35_0
        try clear hcz35_1
        try clear hcz38_0
        try clear hcz38_1
        try clear hcz42_0
        try clear hcz42_1
        try clear hcz45_0
        try clear hcz45_1
        try clear hcz9_0
        try clear hcz9_1
        try clear hfz14_0
        try clear hfz14_1
        try clear hfz16_0
        try clear hfz16_1
        try clear hfz21_0
        try clear hfz21_1
        try clear hfz24_0
        try clear hfz24_1
        try clear hfz30_0
        try clear hfz30_1
        try clear hfz35_0
        try clear hfz35_1
        try clear hfz38_0
        try clear hfz38_1
        try clear hfz42_0
        try clear hfz42_1
        try clear hfz45_0
        try clear hfz45_1
        try clear hfz9_0
        try clear hfz9_1
        try clear p2
        obtain ⟨kq, x30_24, rfl, HA, HJ24, BK161, BK162, BK163, BK164, HB⟩ := hcut
        cases kq with
        | zero => exact absurd HA.out (by simp [impostref04_Meet.j1])
        | succ kj24 =>
          have H := HA.out
          clear HA
          simp only [impostref04_Meet.j1] at H
          by_cases c46 : x30_24 = true
          · subst c46
            have H1 : ((impostref04_Empty.f x165000_2 a1_1).bind fun t165 => (if t165 = true then (some ((⟨#[]⟩ : ByteArray), (⟨#[]⟩ : ByteArray), false)) else (some (x165000_2, a1_1, true)))) = some (r1, r2, r3) := by rw [if_pos rfl] at H; exact H
            clear H
            have H := H1
            clear H1
            replace H := Option.bind_eq_some_iff.mp H
            obtain ⟨t165, A470, H⟩ := H
            replace H : (if t165 = true then (some ((⟨#[]⟩ : ByteArray), (⟨#[]⟩ : ByteArray), false)) else (some (x165000_2, a1_1, true))) = some (r1, r2, r3) := H
            have A47 := Aside0.mk A470
            clear A470
            by_cases c48 : t165 = true
            · subst c48
              have H1 : (some ((⟨#[]⟩ : ByteArray), (⟨#[]⟩ : ByteArray), false)) = some (r1, r2, r3) := by rw [if_pos rfl] at H; exact H
              clear H
              have H := H1
              clear H1
              simp only [Option.some.injEq, Prod.mk.injEq] at H
              obtain ⟨rfl, rfl, rfl⟩ := H
              have hnb49 := NB162_161.out
              have hnc49 := NB161_162.out
              have hnb50 := NB162_163.out
              have hnc50 := NB163_162.out
              have hnb51 := NB162_164.out
              have hnc51 := NB164_162.out
              have hcz52_0 : wc.cell? ⟨gb162, 0, none⟩ = some (.string a1_0) := (blk_cell BK162.out 0).trans rfl
              have hcz52_1 : wc.cell? ⟨gb162, 1, none⟩ = some (.string a1_1) := (blk_cell BK162.out 1).trans rfl
              have hfz52_0 := blk_frozen BK162.out 0
              have hfz52_1 := blk_frozen BK162.out 1
              have hnb53 := NB164_161.out
              have hnc53 := NB161_164.out
              have hnb54 := NB164_163.out
              have hnc54 := NB163_164.out
              have hcz55_0 : wc.cell? ⟨gb164, 0, none⟩ = some (.string x165000_2) := (blk_cell BK164.out 0).trans rfl
              have hcz55_1 : wc.cell? ⟨gb164, 1, none⟩ = some (.string a0_1) := (blk_cell BK164.out 1).trans rfl
              have hfz55_0 := blk_frozen BK164.out 0
              have hfz55_1 := blk_frozen BK164.out 1
              go_wp2_with (first | ((with_reducible refine gate_callee (f := 17) rfl ?_); refine goesL_ (some 35) rfl rfl Try.func17 (by kernel_rfl) rfl #[.agg #[.string x165000_2, .string a1_1]] rfl (by (try simp only [List.map_toArray, List.map_cons, List.map_nil]); first | done | rfl | (simp only [List.length_drop, List.length_take]; rfl)) ?_; (with_reducible refine (impostref04_Empty.calls x165000_2 a1_1 true _ A47.out).mono ?_); rintro e w56 ⟨rfl, hb⟩; refine ⟨_, rfl, ?_⟩; have n0_ := Aside0.mk (blk_below (g := gb161) (o := .cells #[.string a0_0, .string a0_1] 23 (0, 0)) (by (with_reducible repeat (first | refine blk_drewN ?_ _ | refine blk_drew ?_ | refine blk_alloc ?_ _)); refine blk_far ?_ NB161_164.out _; (with_reducible repeat (first | refine blk_drewN ?_ _ | refine blk_drew ?_ | refine blk_alloc ?_ _)); exact BK161.out) hb); have n1_ := Aside0.mk (blk_below (g := gb162) (o := .cells #[.string a1_0, .string a1_1] 23 (0, 0)) (by (with_reducible repeat (first | refine blk_drewN ?_ _ | refine blk_drew ?_ | refine blk_alloc ?_ _)); refine blk_far ?_ NB162_164.out _; (with_reducible repeat (first | refine blk_drewN ?_ _ | refine blk_drew ?_ | refine blk_alloc ?_ _)); exact BK162.out) hb); have n2_ := Aside0.mk (blk_below (g := gb163) (o := .cells #[.string (⟨#[]⟩ : ByteArray), .string (⟨#[]⟩ : ByteArray)] 23 (0, 0)) (by (with_reducible repeat (first | refine blk_drewN ?_ _ | refine blk_drew ?_ | refine blk_alloc ?_ _)); refine blk_far ?_ NB163_164.out _; (with_reducible repeat (first | refine blk_drewN ?_ _ | refine blk_drew ?_ | refine blk_alloc ?_ _)); exact BK163.out) hb); have n3_ := Aside0.mk (blk_below (g := gb164) (o := .cells #[.string x165000_2, .string a1_1] 23 (0, 0)) (by (with_reducible repeat (first | refine blk_drewN ?_ _ | refine blk_drew ?_ | refine blk_alloc ?_ _)); refine blk_put (cs := #[.string x165000_2, .string a0_1]) ?_ 1 _ rfl; (with_reducible repeat (first | refine blk_drewN ?_ _ | refine blk_drew ?_ | refine blk_alloc ?_ _)); exact BK164.out) hb); have n4_ := Aside0.mk (below_step (by repeat (first | (with_reducible first | exact HB.out | apply below_alloc | apply pw_below_drewN | apply below_drew1 | refine below_set ?_ GE161.out | refine below_set ?_ GE162.out | refine below_set ?_ GE163.out | refine below_set ?_ GE164.out) | exact HB.out)) hb); clear BK161; clear BK162; clear BK163; clear BK164; clear HB; have BK161 := n0_; have BK162 := n1_; have BK163 := n2_; have BK164 := n3_; have HB := n4_; clear n0_ n1_ n2_ n3_ n4_; (try clear hb); (try clear hb2); (try clear hk); (try clear hi); have hnb57 := NB163_161.out; have hnc57 := NB161_163.out; have hcz58_0 : w56.cell? ⟨gb163, 0, none⟩ = some (.string (⟨#[]⟩ : ByteArray)) := (blk_cell BK163.out 0).trans rfl; have hcz58_1 : w56.cell? ⟨gb163, 1, none⟩ = some (.string (⟨#[]⟩ : ByteArray)) := (blk_cell BK163.out 1).trans rfl; have hfz58_0 := blk_frozen BK163.out 0; have hfz58_1 := blk_frozen BK163.out 1))
              refine bodyPost_ret (results_ct rfl _ _ gb163 23 #[.string (⟨#[]⟩ : ByteArray), .string (⟨#[]⟩ : ByteArray)] (0, 0) _ rfl (by (with_reducible repeat (first | refine blk_drewN ?_ _ | refine blk_drew ?_ | refine blk_alloc ?_ _)); refine blk_put (cs := #[.string (⟨#[]⟩ : ByteArray), .string (⟨#[]⟩ : ByteArray)]) ?_ 1 _ rfl; (with_reducible repeat (first | refine blk_drewN ?_ _ | refine blk_drew ?_ | refine blk_alloc ?_ _)); refine blk_put (cs := #[.string (⟨#[]⟩ : ByteArray), .string (⟨#[]⟩ : ByteArray)]) ?_ 0 _ rfl; (with_reducible repeat (first | refine blk_drewN ?_ _ | refine blk_drew ?_ | refine blk_alloc ?_ _)); exact BK163.out) Try.underlying23 rfl (by kernel_rfl)) rfl ?_
              exact ⟨by first | rfl | (simp [errW_none, errW_some] <;> rfl) | (simp [*, errW_none, errW_some] <;> rfl), by repeat (first | (with_reducible first | exact HB.out | apply below_alloc | apply pw_below_drewN | apply below_drew1 | refine below_set ?_ GE161.out | refine below_set ?_ GE162.out | refine below_set ?_ GE163.out | refine below_set ?_ GE164.out) | exact HB.out)⟩
            · replace c48 := Bool.eq_false_iff.mpr c48
              subst c48
              have H1 : (some (x165000_2, a1_1, true)) = some (r1, r2, r3) := by rw [if_neg (show ¬ (false = true) by decide)] at H; exact H
              clear H
              have H := H1
              clear H1
              simp only [Option.some.injEq, Prod.mk.injEq] at H
              obtain ⟨rfl, rfl, rfl⟩ := H
              have hnb59 := NB162_161.out
              have hnc59 := NB161_162.out
              have hnb60 := NB162_163.out
              have hnc60 := NB163_162.out
              have hnb61 := NB162_164.out
              have hnc61 := NB164_162.out
              have hcz62_0 : wc.cell? ⟨gb162, 0, none⟩ = some (.string a1_0) := (blk_cell BK162.out 0).trans rfl
              have hcz62_1 : wc.cell? ⟨gb162, 1, none⟩ = some (.string a1_1) := (blk_cell BK162.out 1).trans rfl
              have hfz62_0 := blk_frozen BK162.out 0
              have hfz62_1 := blk_frozen BK162.out 1
              have hnb63 := NB164_161.out
              have hnc63 := NB161_164.out
              have hnb64 := NB164_163.out
              have hnc64 := NB163_164.out
              have hcz65_0 : wc.cell? ⟨gb164, 0, none⟩ = some (.string x165000_2) := (blk_cell BK164.out 0).trans rfl
              have hcz65_1 : wc.cell? ⟨gb164, 1, none⟩ = some (.string a0_1) := (blk_cell BK164.out 1).trans rfl
              have hfz65_0 := blk_frozen BK164.out 0
              have hfz65_1 := blk_frozen BK164.out 1
              go_wp2_with (first | ((with_reducible refine gate_callee (f := 17) rfl ?_); refine goesL_ (some 35) rfl rfl Try.func17 (by kernel_rfl) rfl #[.agg #[.string x165000_2, .string a1_1]] rfl (by (try simp only [List.map_toArray, List.map_cons, List.map_nil]); first | done | rfl | (simp only [List.length_drop, List.length_take]; rfl)) ?_; (with_reducible refine (impostref04_Empty.calls x165000_2 a1_1 false _ A47.out).mono ?_); rintro e w66 ⟨rfl, hb⟩; refine ⟨_, rfl, ?_⟩; have n0_ := Aside0.mk (blk_below (g := gb161) (o := .cells #[.string a0_0, .string a0_1] 23 (0, 0)) (by (with_reducible repeat (first | refine blk_drewN ?_ _ | refine blk_drew ?_ | refine blk_alloc ?_ _)); refine blk_far ?_ NB161_164.out _; (with_reducible repeat (first | refine blk_drewN ?_ _ | refine blk_drew ?_ | refine blk_alloc ?_ _)); exact BK161.out) hb); have n1_ := Aside0.mk (blk_below (g := gb162) (o := .cells #[.string a1_0, .string a1_1] 23 (0, 0)) (by (with_reducible repeat (first | refine blk_drewN ?_ _ | refine blk_drew ?_ | refine blk_alloc ?_ _)); refine blk_far ?_ NB162_164.out _; (with_reducible repeat (first | refine blk_drewN ?_ _ | refine blk_drew ?_ | refine blk_alloc ?_ _)); exact BK162.out) hb); have n2_ := Aside0.mk (blk_below (g := gb163) (o := .cells #[.string (⟨#[]⟩ : ByteArray), .string (⟨#[]⟩ : ByteArray)] 23 (0, 0)) (by (with_reducible repeat (first | refine blk_drewN ?_ _ | refine blk_drew ?_ | refine blk_alloc ?_ _)); refine blk_far ?_ NB163_164.out _; (with_reducible repeat (first | refine blk_drewN ?_ _ | refine blk_drew ?_ | refine blk_alloc ?_ _)); exact BK163.out) hb); have n3_ := Aside0.mk (blk_below (g := gb164) (o := .cells #[.string x165000_2, .string a1_1] 23 (0, 0)) (by (with_reducible repeat (first | refine blk_drewN ?_ _ | refine blk_drew ?_ | refine blk_alloc ?_ _)); refine blk_put (cs := #[.string x165000_2, .string a0_1]) ?_ 1 _ rfl; (with_reducible repeat (first | refine blk_drewN ?_ _ | refine blk_drew ?_ | refine blk_alloc ?_ _)); exact BK164.out) hb); have n4_ := Aside0.mk (below_step (by repeat (first | (with_reducible first | exact HB.out | apply below_alloc | apply pw_below_drewN | apply below_drew1 | refine below_set ?_ GE161.out | refine below_set ?_ GE162.out | refine below_set ?_ GE163.out | refine below_set ?_ GE164.out) | exact HB.out)) hb); clear BK161; clear BK162; clear BK163; clear BK164; clear HB; have BK161 := n0_; have BK162 := n1_; have BK163 := n2_; have BK164 := n3_; have HB := n4_; clear n0_ n1_ n2_ n3_ n4_; (try clear hb); (try clear hb2); (try clear hk); (try clear hi); have hcz67_0 : w66.cell? ⟨gb164, 0, none⟩ = some (.string x165000_2) := (blk_cell BK164.out 0).trans rfl; have hcz67_1 : w66.cell? ⟨gb164, 1, none⟩ = some (.string a1_1) := (blk_cell BK164.out 1).trans rfl; have hfz67_0 := blk_frozen BK164.out 0; have hfz67_1 := blk_frozen BK164.out 1; have hnb68 := NB163_161.out; have hnc68 := NB161_163.out; have hcz69_0 : w66.cell? ⟨gb163, 0, none⟩ = some (.string (⟨#[]⟩ : ByteArray)) := (blk_cell BK163.out 0).trans rfl; have hcz69_1 : w66.cell? ⟨gb163, 1, none⟩ = some (.string (⟨#[]⟩ : ByteArray)) := (blk_cell BK163.out 1).trans rfl; have hfz69_0 := blk_frozen BK163.out 0; have hfz69_1 := blk_frozen BK163.out 1))
              refine bodyPost_ret (results_ct rfl _ _ gb163 23 #[.string x165000_2, .string a1_1] (0, 0) _ rfl (by (with_reducible repeat (first | refine blk_drewN ?_ _ | refine blk_drew ?_ | refine blk_alloc ?_ _)); refine blk_put (cs := #[.string x165000_2, .string (⟨#[]⟩ : ByteArray)]) ?_ 1 _ rfl; (with_reducible repeat (first | refine blk_drewN ?_ _ | refine blk_drew ?_ | refine blk_alloc ?_ _)); refine blk_put (cs := #[.string (⟨#[]⟩ : ByteArray), .string (⟨#[]⟩ : ByteArray)]) ?_ 0 _ rfl; (with_reducible repeat (first | refine blk_drewN ?_ _ | refine blk_drew ?_ | refine blk_alloc ?_ _)); exact BK163.out) Try.underlying23 rfl (by kernel_rfl)) rfl ?_
              exact ⟨by first | rfl | (simp [errW_none, errW_some] <;> rfl) | (simp [*, errW_none, errW_some] <;> rfl), by repeat (first | (with_reducible first | exact HB.out | apply below_alloc | apply pw_below_drewN | apply below_drew1 | refine below_set ?_ GE161.out | refine below_set ?_ GE162.out | refine below_set ?_ GE163.out | refine below_set ?_ GE164.out) | exact HB.out)⟩
          · replace c46 := Bool.eq_false_iff.mpr c46
            subst c46
            have H1 : ((impostref04_Empty.f x165000_2 a0_1).bind fun t166 => (if t166 = true then (some ((⟨#[]⟩ : ByteArray), (⟨#[]⟩ : ByteArray), false)) else (some (x165000_2, a0_1, true)))) = some (r1, r2, r3) := by rw [if_neg (show ¬ (false = true) by decide)] at H; exact H
            clear H
            have H := H1
            clear H1
            replace H := Option.bind_eq_some_iff.mp H
            obtain ⟨t166, A700, H⟩ := H
            replace H : (if t166 = true then (some ((⟨#[]⟩ : ByteArray), (⟨#[]⟩ : ByteArray), false)) else (some (x165000_2, a0_1, true))) = some (r1, r2, r3) := H
            have A70 := Aside0.mk A700
            clear A700
            by_cases c71 : t166 = true
            · subst c71
              have H1 : (some ((⟨#[]⟩ : ByteArray), (⟨#[]⟩ : ByteArray), false)) = some (r1, r2, r3) := by rw [if_pos rfl] at H; exact H
              clear H
              have H := H1
              clear H1
              simp only [Option.some.injEq, Prod.mk.injEq] at H
              obtain ⟨rfl, rfl, rfl⟩ := H
              have hnb72 := NB164_161.out
              have hnc72 := NB161_164.out
              have hnb73 := NB164_162.out
              have hnc73 := NB162_164.out
              have hnb74 := NB164_163.out
              have hnc74 := NB163_164.out
              have hcz75_0 : wc.cell? ⟨gb164, 0, none⟩ = some (.string x165000_2) := (blk_cell BK164.out 0).trans rfl
              have hcz75_1 : wc.cell? ⟨gb164, 1, none⟩ = some (.string a0_1) := (blk_cell BK164.out 1).trans rfl
              have hfz75_0 := blk_frozen BK164.out 0
              have hfz75_1 := blk_frozen BK164.out 1
              go_wp2_with (first | ((with_reducible refine gate_callee (f := 17) rfl ?_); refine goesL_ (some 35) rfl rfl Try.func17 (by kernel_rfl) rfl #[.agg #[.string x165000_2, .string a0_1]] rfl (by (try simp only [List.map_toArray, List.map_cons, List.map_nil]); first | done | rfl | (simp only [List.length_drop, List.length_take]; rfl)) ?_; (with_reducible refine (impostref04_Empty.calls x165000_2 a0_1 true _ A70.out).mono ?_); rintro e w76 ⟨rfl, hb⟩; refine ⟨_, rfl, ?_⟩; have n0_ := Aside0.mk (blk_below (g := gb161) (o := .cells #[.string a0_0, .string a0_1] 23 (0, 0)) (by (with_reducible repeat (first | refine blk_drewN ?_ _ | refine blk_drew ?_ | refine blk_alloc ?_ _)); exact BK161.out) hb); have n1_ := Aside0.mk (blk_below (g := gb162) (o := .cells #[.string a1_0, .string a1_1] 23 (0, 0)) (by (with_reducible repeat (first | refine blk_drewN ?_ _ | refine blk_drew ?_ | refine blk_alloc ?_ _)); exact BK162.out) hb); have n2_ := Aside0.mk (blk_below (g := gb163) (o := .cells #[.string (⟨#[]⟩ : ByteArray), .string (⟨#[]⟩ : ByteArray)] 23 (0, 0)) (by (with_reducible repeat (first | refine blk_drewN ?_ _ | refine blk_drew ?_ | refine blk_alloc ?_ _)); exact BK163.out) hb); have n3_ := Aside0.mk (blk_below (g := gb164) (o := .cells #[.string x165000_2, .string a0_1] 23 (0, 0)) (by (with_reducible repeat (first | refine blk_drewN ?_ _ | refine blk_drew ?_ | refine blk_alloc ?_ _)); exact BK164.out) hb); have n4_ := Aside0.mk (below_step (by repeat (first | (with_reducible first | exact HB.out | apply below_alloc | apply pw_below_drewN | apply below_drew1 | refine below_set ?_ GE161.out | refine below_set ?_ GE162.out | refine below_set ?_ GE163.out | refine below_set ?_ GE164.out) | exact HB.out)) hb); clear BK161; clear BK162; clear BK163; clear BK164; clear HB; have BK161 := n0_; have BK162 := n1_; have BK163 := n2_; have BK164 := n3_; have HB := n4_; clear n0_ n1_ n2_ n3_ n4_; (try clear hb); (try clear hb2); (try clear hk); (try clear hi); have hnb77 := NB163_161.out; have hnc77 := NB161_163.out; have hnb78 := NB163_162.out; have hnc78 := NB162_163.out; have hcz79_0 : w76.cell? ⟨gb163, 0, none⟩ = some (.string (⟨#[]⟩ : ByteArray)) := (blk_cell BK163.out 0).trans rfl; have hcz79_1 : w76.cell? ⟨gb163, 1, none⟩ = some (.string (⟨#[]⟩ : ByteArray)) := (blk_cell BK163.out 1).trans rfl; have hfz79_0 := blk_frozen BK163.out 0; have hfz79_1 := blk_frozen BK163.out 1))
              refine bodyPost_ret (results_ct rfl _ _ gb163 23 #[.string (⟨#[]⟩ : ByteArray), .string (⟨#[]⟩ : ByteArray)] (0, 0) _ rfl (by (with_reducible repeat (first | refine blk_drewN ?_ _ | refine blk_drew ?_ | refine blk_alloc ?_ _)); refine blk_put (cs := #[.string (⟨#[]⟩ : ByteArray), .string (⟨#[]⟩ : ByteArray)]) ?_ 1 _ rfl; (with_reducible repeat (first | refine blk_drewN ?_ _ | refine blk_drew ?_ | refine blk_alloc ?_ _)); refine blk_put (cs := #[.string (⟨#[]⟩ : ByteArray), .string (⟨#[]⟩ : ByteArray)]) ?_ 0 _ rfl; (with_reducible repeat (first | refine blk_drewN ?_ _ | refine blk_drew ?_ | refine blk_alloc ?_ _)); exact BK163.out) Try.underlying23 rfl (by kernel_rfl)) rfl ?_
              exact ⟨by first | rfl | (simp [errW_none, errW_some] <;> rfl) | (simp [*, errW_none, errW_some] <;> rfl), by repeat (first | (with_reducible first | exact HB.out | apply below_alloc | apply pw_below_drewN | apply below_drew1 | refine below_set ?_ GE161.out | refine below_set ?_ GE162.out | refine below_set ?_ GE163.out | refine below_set ?_ GE164.out) | exact HB.out)⟩
            · replace c71 := Bool.eq_false_iff.mpr c71
              subst c71
              have H1 : (some (x165000_2, a0_1, true)) = some (r1, r2, r3) := by rw [if_neg (show ¬ (false = true) by decide)] at H; exact H
              clear H
              have H := H1
              clear H1
              simp only [Option.some.injEq, Prod.mk.injEq] at H
              obtain ⟨rfl, rfl, rfl⟩ := H
              have hnb80 := NB164_161.out
              have hnc80 := NB161_164.out
              have hnb81 := NB164_162.out
              have hnc81 := NB162_164.out
              have hnb82 := NB164_163.out
              have hnc82 := NB163_164.out
              have hcz83_0 : wc.cell? ⟨gb164, 0, none⟩ = some (.string x165000_2) := (blk_cell BK164.out 0).trans rfl
              have hcz83_1 : wc.cell? ⟨gb164, 1, none⟩ = some (.string a0_1) := (blk_cell BK164.out 1).trans rfl
              have hfz83_0 := blk_frozen BK164.out 0
              have hfz83_1 := blk_frozen BK164.out 1
              go_wp2_with (first | ((with_reducible refine gate_callee (f := 17) rfl ?_); refine goesL_ (some 35) rfl rfl Try.func17 (by kernel_rfl) rfl #[.agg #[.string x165000_2, .string a0_1]] rfl (by (try simp only [List.map_toArray, List.map_cons, List.map_nil]); first | done | rfl | (simp only [List.length_drop, List.length_take]; rfl)) ?_; (with_reducible refine (impostref04_Empty.calls x165000_2 a0_1 false _ A70.out).mono ?_); rintro e w84 ⟨rfl, hb⟩; refine ⟨_, rfl, ?_⟩; have n0_ := Aside0.mk (blk_below (g := gb161) (o := .cells #[.string a0_0, .string a0_1] 23 (0, 0)) (by (with_reducible repeat (first | refine blk_drewN ?_ _ | refine blk_drew ?_ | refine blk_alloc ?_ _)); exact BK161.out) hb); have n1_ := Aside0.mk (blk_below (g := gb162) (o := .cells #[.string a1_0, .string a1_1] 23 (0, 0)) (by (with_reducible repeat (first | refine blk_drewN ?_ _ | refine blk_drew ?_ | refine blk_alloc ?_ _)); exact BK162.out) hb); have n2_ := Aside0.mk (blk_below (g := gb163) (o := .cells #[.string (⟨#[]⟩ : ByteArray), .string (⟨#[]⟩ : ByteArray)] 23 (0, 0)) (by (with_reducible repeat (first | refine blk_drewN ?_ _ | refine blk_drew ?_ | refine blk_alloc ?_ _)); exact BK163.out) hb); have n3_ := Aside0.mk (blk_below (g := gb164) (o := .cells #[.string x165000_2, .string a0_1] 23 (0, 0)) (by (with_reducible repeat (first | refine blk_drewN ?_ _ | refine blk_drew ?_ | refine blk_alloc ?_ _)); exact BK164.out) hb); have n4_ := Aside0.mk (below_step (by repeat (first | (with_reducible first | exact HB.out | apply below_alloc | apply pw_below_drewN | apply below_drew1 | refine below_set ?_ GE161.out | refine below_set ?_ GE162.out | refine below_set ?_ GE163.out | refine below_set ?_ GE164.out) | exact HB.out)) hb); clear BK161; clear BK162; clear BK163; clear BK164; clear HB; have BK161 := n0_; have BK162 := n1_; have BK163 := n2_; have BK164 := n3_; have HB := n4_; clear n0_ n1_ n2_ n3_ n4_; (try clear hb); (try clear hb2); (try clear hk); (try clear hi); have hcz85_0 : w84.cell? ⟨gb164, 0, none⟩ = some (.string x165000_2) := (blk_cell BK164.out 0).trans rfl; have hcz85_1 : w84.cell? ⟨gb164, 1, none⟩ = some (.string a0_1) := (blk_cell BK164.out 1).trans rfl; have hfz85_0 := blk_frozen BK164.out 0; have hfz85_1 := blk_frozen BK164.out 1; have hnb86 := NB163_161.out; have hnc86 := NB161_163.out; have hnb87 := NB163_162.out; have hnc87 := NB162_163.out; have hcz88_0 : w84.cell? ⟨gb163, 0, none⟩ = some (.string (⟨#[]⟩ : ByteArray)) := (blk_cell BK163.out 0).trans rfl; have hcz88_1 : w84.cell? ⟨gb163, 1, none⟩ = some (.string (⟨#[]⟩ : ByteArray)) := (blk_cell BK163.out 1).trans rfl; have hfz88_0 := blk_frozen BK163.out 0; have hfz88_1 := blk_frozen BK163.out 1))
              refine bodyPost_ret (results_ct rfl _ _ gb163 23 #[.string x165000_2, .string a0_1] (0, 0) _ rfl (by (with_reducible repeat (first | refine blk_drewN ?_ _ | refine blk_drew ?_ | refine blk_alloc ?_ _)); refine blk_put (cs := #[.string x165000_2, .string (⟨#[]⟩ : ByteArray)]) ?_ 1 _ rfl; (with_reducible repeat (first | refine blk_drewN ?_ _ | refine blk_drew ?_ | refine blk_alloc ?_ _)); refine blk_put (cs := #[.string (⟨#[]⟩ : ByteArray), .string (⟨#[]⟩ : ByteArray)]) ?_ 0 _ rfl; (with_reducible repeat (first | refine blk_drewN ?_ _ | refine blk_drew ?_ | refine blk_alloc ?_ _)); exact BK163.out) Try.underlying23 rfl (by kernel_rfl)) rfl ?_
              exact ⟨by first | rfl | (simp [errW_none, errW_some] <;> rfl) | (simp [*, errW_none, errW_some] <;> rfl), by repeat (first | (with_reducible first | exact HB.out | apply below_alloc | apply pw_below_drewN | apply below_drew1 | refine below_set ?_ GE161.out | refine below_set ?_ GE162.out | refine below_set ?_ GE163.out | refine below_set ?_ GE164.out) | exact HB.out)⟩

/-! ### key_One: function 21 -/
def key_One.f (a0 : ByteArray) : Option (ByteArray × ByteArray) := if a0.size + 1 ≤ 9223372036854775807 then (some (a0, a0 ++ (⟨#[0]⟩ : ByteArray))) else (none)
set_option maxHeartbeats 8000000 in
set_option maxRecDepth 100000 in
theorem key_One.calls (a0 : ByteArray) (r1 : ByteArray) (r2 : ByteArray) (w : World) (h : key_One.f a0 = some (r1, r2)) :
    Calls Try.prog 21 #[.string a0] w fun e w' => e = .returned (.agg #[.string r1, .string r2]) ∧ Below w.heap.size w w' := by
  have hu23 := Try.underlying23
  have HB := Aside0.mk (Below.refl w.heap.size w)
  have H : (if a0.size + 1 ≤ 9223372036854775807 then (some (a0, a0 ++ (⟨#[0]⟩ : ByteArray))) else (none)) = some (r1, r2) := h
  clear h
  by_cases c2 : a0.size + 1 ≤ 9223372036854775807
  · rw [if_pos c2] at H
    have c2b0 := eq_true c2
    have c2b1 : decide (a0.size + 1 ≤ 9223372036854775807) = true := decide_eq_true c2
    try have c2b2 : (9223372036854775807 < a0.size + 1) = False := eq_false (Nat.not_lt.2 c2)
    simp only [Option.some.injEq, Prod.mk.injEq] at H
    obtain ⟨rfl, rfl⟩ := H
    go_enter Try.func21, Try.ntmps21
    go_wp2_with (first | ((with_reducible refine gate_dst (N := 2) rfl ?_); refine box_event ?hg (N := 2) ?hd (cs := #[.string (⟨#[]⟩ : ByteArray), .string (⟨#[]⟩ : ByteArray)]) (t := 23) ?hr ?_; (case hd => rfl); (case hg => rfl); (case hr => first | (go_simp; done) | (go_simp; rfl)); intro gb167 hg w3 hbox hb; have n0_ := Aside0.mk (below_step (by repeat (first | (with_reducible first | exact HB.out | apply below_alloc | apply pw_below_drewN | apply below_drew1) | exact HB.out)) hb); have n1_ := Aside0.mk (hbox); have n2_ := Aside0.mk ((by rw [hg]; exact (below_size (by repeat (first | (with_reducible first | exact HB.out | apply below_alloc | apply pw_below_drewN | apply below_drew1) | exact HB.out))) : w.heap.size ≤ gb167)); have n3_ := Aside0.mk ((by rw [hg]; exact (below_size (by repeat (first | (with_reducible first | exact HB.out | apply below_alloc | apply pw_below_drewN | apply below_drew1) | exact HB.out))) : w.heap.size ≤ gb167)); clear HB; have HB := n0_; have BK167 := n1_; have GW167 := n2_; have GE167 := n3_; clear n0_ n1_ n2_ n3_; clear hb hbox hg; have hcz4_0 : w3.cell? ⟨gb167, 0, none⟩ = some (.string (⟨#[]⟩ : ByteArray)) := (blk_cell BK167.out 0).trans rfl; have hcz4_1 : w3.cell? ⟨gb167, 1, none⟩ = some (.string (⟨#[]⟩ : ByteArray)) := (blk_cell BK167.out 1).trans rfl; have hfz4_0 := blk_frozen BK167.out 0; have hfz4_1 := blk_frozen BK167.out 1))
    refine bodyPost_ret (results_cell_row rfl _ _ gb167 23 #[.string a0, .string (a0 ++ (⟨#[0]⟩ : ByteArray))] (0, 0) _ rfl (by (with_reducible repeat (first | refine blk_drewN ?_ _ | refine blk_drew ?_ | refine blk_alloc ?_ _)); refine blk_put (cs := #[.string a0, .string (⟨#[]⟩ : ByteArray)]) ?_ 1 _ rfl; (with_reducible repeat (first | refine blk_drewN ?_ _ | refine blk_drew ?_ | refine blk_alloc ?_ _)); refine blk_put (cs := #[.string (⟨#[]⟩ : ByteArray), .string (⟨#[]⟩ : ByteArray)]) ?_ 0 _ rfl; (with_reducible repeat (first | refine blk_drewN ?_ _ | refine blk_drew ?_ | refine blk_alloc ?_ _)); exact BK167.out) Try.underlying23 rfl (by kernel_rfl)) rfl ?_
    exact ⟨by first | rfl | (simp [errW_none, errW_some] <;> rfl) | (simp [*, errW_none, errW_some] <;> rfl), by repeat (first | (with_reducible first | exact HB.out | apply below_alloc | apply pw_below_drewN | apply below_drew1 | refine below_set ?_ GE167.out) | exact HB.out)⟩
  · rw [if_neg c2] at H
    exact absurd H (by simp)

/-! ### impostref04_One: function 22 -/
def impostref04_One.f (a0 : ByteArray) : Option (ByteArray × ByteArray) := if a0.size + 1 ≤ 9223372036854775807 then (some (a0, a0 ++ (⟨#[0]⟩ : ByteArray))) else (none)
set_option maxHeartbeats 8000000 in
set_option maxRecDepth 100000 in
theorem impostref04_One.calls (a0 : ByteArray) (r1 : ByteArray) (r2 : ByteArray) (w : World) (h : impostref04_One.f a0 = some (r1, r2)) :
    Calls Try.prog 22 #[.string a0] w fun e w' => e = .returned (.agg #[.string r1, .string r2]) ∧ Below w.heap.size w w' := by
  have hu23 := Try.underlying23
  have HB := Aside0.mk (Below.refl w.heap.size w)
  have H : (if a0.size + 1 ≤ 9223372036854775807 then (some (a0, a0 ++ (⟨#[0]⟩ : ByteArray))) else (none)) = some (r1, r2) := h
  clear h
  by_cases c2 : a0.size + 1 ≤ 9223372036854775807
  · rw [if_pos c2] at H
    have c2b0 := eq_true c2
    have c2b1 : decide (a0.size + 1 ≤ 9223372036854775807) = true := decide_eq_true c2
    try have c2b2 : (9223372036854775807 < a0.size + 1) = False := eq_false (Nat.not_lt.2 c2)
    simp only [Option.some.injEq, Prod.mk.injEq] at H
    obtain ⟨rfl, rfl⟩ := H
    go_enter Try.func22, Try.ntmps22
    go_wp2_with (first | ((with_reducible refine gate_dst (N := 2) rfl ?_); refine box_event ?hg (N := 2) ?hd (cs := #[.string (⟨#[]⟩ : ByteArray), .string (⟨#[]⟩ : ByteArray)]) (t := 23) ?hr ?_; (case hd => rfl); (case hg => rfl); (case hr => first | (go_simp; done) | (go_simp; rfl)); intro gb168 hg w3 hbox hb; have n0_ := Aside0.mk (below_step (by repeat (first | (with_reducible first | exact HB.out | apply below_alloc | apply pw_below_drewN | apply below_drew1) | exact HB.out)) hb); have n1_ := Aside0.mk (hbox); have n2_ := Aside0.mk ((by rw [hg]; exact (below_size (by repeat (first | (with_reducible first | exact HB.out | apply below_alloc | apply pw_below_drewN | apply below_drew1) | exact HB.out))) : w.heap.size ≤ gb168)); have n3_ := Aside0.mk ((by rw [hg]; exact (below_size (by repeat (first | (with_reducible first | exact HB.out | apply below_alloc | apply pw_below_drewN | apply below_drew1) | exact HB.out))) : w.heap.size ≤ gb168)); clear HB; have HB := n0_; have BK168 := n1_; have GW168 := n2_; have GE168 := n3_; clear n0_ n1_ n2_ n3_; clear hb hbox hg; have hcz4_0 : w3.cell? ⟨gb168, 0, none⟩ = some (.string (⟨#[]⟩ : ByteArray)) := (blk_cell BK168.out 0).trans rfl; have hcz4_1 : w3.cell? ⟨gb168, 1, none⟩ = some (.string (⟨#[]⟩ : ByteArray)) := (blk_cell BK168.out 1).trans rfl; have hfz4_0 := blk_frozen BK168.out 0; have hfz4_1 := blk_frozen BK168.out 1))
    refine bodyPost_ret (results_cell_row rfl _ _ gb168 23 #[.string a0, .string (a0 ++ (⟨#[0]⟩ : ByteArray))] (0, 0) _ rfl (by (with_reducible repeat (first | refine blk_drewN ?_ _ | refine blk_drew ?_ | refine blk_alloc ?_ _)); refine blk_put (cs := #[.string a0, .string (⟨#[]⟩ : ByteArray)]) ?_ 1 _ rfl; (with_reducible repeat (first | refine blk_drewN ?_ _ | refine blk_drew ?_ | refine blk_alloc ?_ _)); refine blk_put (cs := #[.string (⟨#[]⟩ : ByteArray), .string (⟨#[]⟩ : ByteArray)]) ?_ 0 _ rfl; (with_reducible repeat (first | refine blk_drewN ?_ _ | refine blk_drew ?_ | refine blk_alloc ?_ _)); exact BK168.out) Try.underlying23 rfl (by kernel_rfl)) rfl ?_
    exact ⟨by first | rfl | (simp [errW_none, errW_some] <;> rfl) | (simp [*, errW_none, errW_some] <;> rfl), by repeat (first | (with_reducible first | exact HB.out | apply below_alloc | apply pw_below_drewN | apply below_drew1 | refine below_set ?_ GE168.out) | exact HB.out)⟩
  · rw [if_neg c2] at H
    exact absurd H (by simp)

/-! ### impostref04_Prefix: function 23 -/
def impostref04_Prefix.l0 : Nat → ByteArray → ByteArray → Option (ByteArray × ByteArray)
  | 0, _, _ => none
  | k + 1, x0, x3 => if (x3.size : Int) > 0 then (if 0 ≤ (wrap64 ((x3.size : Int) - 1)) then (if (wrap64 ((x3.size : Int) - 1)) < (x3.size : Int) then (if (bt x3 (wrap64 ((x3.size : Int) - 1))) = 255 then (if (wrap64 ((x3.size : Int) - 1)) ≤ (x3.size : Int) then (impostref04_Prefix.l0 k x0 (x3.extract 0 ((wrap64 ((x3.size : Int) - 1)) : Int).toNat)) else (none)) else (if (wrap64 ((x3.size : Int) - 1)) ≤ (x3.size : Int) then ((some (([((bt x3 (wrap64 ((x3.size : Int) - 1))) + 1) % 256] : List Int) : List Int)).bind fun y170 => (if (x3.extract 0 ((wrap64 ((x3.size : Int) - 1)) : Int).toNat).size + (strOfNums y170).size ≤ 9223372036854775807 then (some (x0, (x3.extract 0 ((wrap64 ((x3.size : Int) - 1)) : Int).toNat) ++ (strOfNums y170))) else (none))) else (none))) else (none)) else (none)) else (some (x0, x3))
def impostref04_Prefix.f (k : Nat) (a0 : ByteArray) : Option (ByteArray × ByteArray) := impostref04_Prefix.l0 k a0 a0
theorem impostref04_Prefix.mono_l : ∀ k, (∀ y0 y1, LeO (impostref04_Prefix.l0 k y0 y1) (impostref04_Prefix.l0 (k + 1) y0 y1))
  | 0 => fun _ _ r h => by simp [impostref04_Prefix.l0] at h
  | k + 1 => by
    have ih0 := impostref04_Prefix.mono_l k
    · intro y0 y1
      unfold impostref04_Prefix.l0
      repeat' first
      | (with_reducible exact ih0 _ _)
      | (with_reducible exact LeO.refl _)
      | (with_reducible exact LeO.none _)
      | (with_reducible refine LeO.ite ?_ ?_)
      | (with_reducible refine LeO.bind ?_ (fun _ => ?_))
      | exact ih0 _ _
      | exact LeO.none _
      | refine LeO.ite ?_ ?_
      | refine LeO.bind ?_ (fun _ => ?_)
theorem impostref04_Prefix.mono : ∀ a0 k, LeO (impostref04_Prefix.f k a0) (impostref04_Prefix.f (k + 1) a0) := by
  intro a0 k
  have ih0 := impostref04_Prefix.mono_l k
  unfold impostref04_Prefix.f
  repeat' first
      | (with_reducible exact ih0 _ _)
      | (with_reducible exact LeO.refl _)
      | (with_reducible exact LeO.none _)
      | (with_reducible refine LeO.ite ?_ ?_)
      | (with_reducible refine LeO.bind ?_ (fun _ => ?_))
      | exact ih0 _ _
      | exact LeO.none _
      | refine LeO.ite ?_ ?_
      | refine LeO.bind ?_ (fun _ => ?_)
def impostref04_Prefix.T5 : Bool × List (List Nat × List Nat) := (true, [([], []), ([], []), ([1], [1]), ([2], [2]), ([0, 3], [0, 3]), ([], []), ([], []), ([6], [6]), ([7], [7]), ([5, 8], [5, 8]), ([9], [9]), ([10], [10]), ([11], [11]), ([4, 12], [4, 12]), ([13, 0, 1, 2, 3, 4, 5, 6, 7, 8, 9, 10, 11, 12, 13], [0, 1, 5, 6, 13])])
def impostref04_Prefix.B5 : List Nat := [0, 0, 2, 6, 15, 0, 0, 64, 192, 480, 992, 2016, 4064, 8191, 16383]
theorem impostref04_Prefix.tab5 : rtab .any (opsOf Try.f23 5) = impostref04_Prefix.T5 := by kernel_rfl
theorem impostref04_Prefix.bits5 : waitsOk impostref04_Prefix.T5.2 impostref04_Prefix.B5 = true := by kernel_rfl
set_option maxHeartbeats 8000000 in
set_option maxRecDepth 100000 in
theorem impostref04_Prefix.calls (k : Nat) (a0 : ByteArray) (r1 : ByteArray) (r2 : ByteArray) (w : World) (h : impostref04_Prefix.f k a0 = some (r1, r2)) :
    Calls Try.prog 23 #[.string a0] w fun e w' => e = .returned (.agg #[.string r1, .string r2]) ∧ Below w.heap.size w w' := by
  have hu23 := Try.underlying23
  have HB := Aside0.mk (Below.refl w.heap.size w)
  have H : (impostref04_Prefix.l0 k a0 a0) = some (r1, r2) := h
  clear h
  have H' := Aside0.mk H
  clear H
  go_enter Try.func23, Try.ntmps23
  go_wp2_with (first | ((with_reducible refine gate_dst (N := 2) rfl ?_); (try (refine gate_guard (by rfl) ?_; dsimp only)); refine box_event ?hg (N := 2) ?hd (cs := #[.string (⟨#[]⟩ : ByteArray), .string (⟨#[]⟩ : ByteArray)]) (t := 23) ?hr ?_; (case hd => rfl); (case hg => rfl); (case hr => first | (go_simp; done) | (go_simp; rfl)); intro gb169 hg w2 hbox hb; have n0_ := Aside0.mk (below_step (by repeat (first | (with_reducible first | exact HB.out | apply below_alloc | apply pw_below_drewN | apply below_drew1) | exact HB.out)) hb); have n1_ := Aside0.mk (hbox); have n2_ := Aside0.mk ((by rw [hg]; exact (below_size (by repeat (first | (with_reducible first | exact HB.out | apply below_alloc | apply pw_below_drewN | apply below_drew1) | exact HB.out))) : w.heap.size ≤ gb169)); have n3_ := Aside0.mk ((by rw [hg]; exact (below_size (by repeat (first | (with_reducible first | exact HB.out | apply below_alloc | apply pw_below_drewN | apply below_drew1) | exact HB.out))) : w.heap.size ≤ gb169)); clear HB; have HB := n0_; have BK169 := n1_; have GW169 := n2_; have GE169 := n3_; clear n0_ n1_ n2_ n3_; clear hb hbox hg))
  go_loopg [3] k (fun kq v3 w' => ∃ (x3_1 : ByteArray), v3 = .string x3_1 ∧ Aside0 (impostref04_Prefix.l0 kq a0 x3_1 = some (r1, r2)) ∧ Aside0 (kq ≤ k) ∧ Aside0 (w'.heap[gb169]? = some (.cells #[.string (⟨#[]⟩ : ByteArray), .string (⟨#[]⟩ : ByteArray)] 23 (0, 0))) ∧ Aside0 (Below w.heap.size w w'))
  case atStart => exact ⟨(a0), (by first | rfl | (simp; done) | (simp [*]; done)), H', ⟨Nat.le_refl _⟩, ⟨by (with_reducible repeat (first | refine blk_drewN ?_ _ | refine blk_drew ?_ | refine blk_alloc ?_ _)); exact BK169.out⟩, ⟨by repeat (first | (with_reducible first | exact HB.out | apply below_alloc | apply pw_below_drewN | apply below_drew1 | refine below_set ?_ GE169.out) | exact HB.out)⟩⟩
  case round =>
    clear H'
    try clear c2
    try clear p2
    obtain ⟨x3_1, rfl, HA, HK1, BK169, HB⟩ := hrel
    cases gk with
    | zero => exact absurd HA.out (by simp [impostref04_Prefix.l0])
    | succ k1 =>
      have H := HA.out
      clear HA
      simp only [impostref04_Prefix.l0] at H
      by_cases c3 : (x3_1.size : Int) > 0
      · rw [if_pos c3] at H
        have c3b0 : decide (0 < (x3_1.size : Int)) = true := decide_eq_true c3
        have c3b1 : decide (0 < x3_1.size) = true := decide_eq_true (by omega)
        clear c3
        obtain ⟨ji4, hji4⟩ : ∃ j_ : Int, (wrap64 ((x3_1.size : Int) - 1)) = j_ := ⟨_, rfl⟩
        replace H : (if 0 ≤ (ji4) then (if (ji4) < (x3_1.size : Int) then (if (bt x3_1 (ji4)) = 255 then (if (ji4) ≤ (x3_1.size : Int) then (impostref04_Prefix.l0 k1 a0 (x3_1.extract 0 ((ji4) : Int).toNat)) else (none)) else (if (ji4) ≤ (x3_1.size : Int) then ((some (([((bt x3_1 (ji4)) + 1) % 256] : List Int) : List Int)).bind fun y170 => (if (x3_1.extract 0 ((ji4) : Int).toNat).size + (strOfNums y170).size ≤ 9223372036854775807 then (some (a0, (x3_1.extract 0 ((ji4) : Int).toNat) ++ (strOfNums y170))) else (none))) else (none))) else (none)) else (none)) = some (r1, r2) := by first | (rw [hji4] at H; exact H) | (simp only [hji4] at H ⊢; exact H)
        have hji4w : (IntKind.i64.wrap ((x3_1.size : Int) - 1)) = ji4 := (i64_w _).trans hji4
        by_cases c5 : 0 ≤ (ji4)
        · rw [if_pos c5] at H
          have c5b0 : decide (0 ≤ (ji4)) = true := decide_eq_true c5
          clear c5
          by_cases c6 : (ji4) < (x3_1.size : Int)
          · rw [if_pos c6] at H
            have c6b0 : decide ((ji4) < (x3_1.size : Int)) = true := decide_eq_true c6
            clear c6
            by_cases c8 : (bt x3_1 (ji4)) = 255
            · rw [if_pos c8] at H
              have c8b0 : ((bt x3_1 (ji4)) == 255) = true := beq_iff_eq.mpr c8
              have c8b1 : ((bt x3_1 (ji4)) != 255) = false := bne_eq_false_iff_eq.mpr c8
              clear c8
              have c9b0 := eq_true (of_decide_eq_true (by first | (with_reducible assumption) | assumption) : 0 ≤ (ji4))
              by_cases c10 : (ji4) ≤ (x3_1.size : Int)
              · rw [if_pos c10] at H
                have c10b0 := eq_true c10
                have c10b1 : decide ((ji4) ≤ (x3_1.size : Int)) = true := decide_eq_true c10
                clear c10
                have H' := Aside0.mk H
                clear H
                have p7 : 0 ≤ ((ji4) : Int) := of_decide_eq_true (by first | (with_reducible assumption) | assumption)
                have q7 : (ji4) < (x3_1.size : Int) := of_decide_eq_true (by first | (with_reducible assumption) | assumption)
                have hx7 := bt_at x3_1 (ji4)
                replace p7 := eq_true p7
                replace q7 := eq_true q7
                go_wp2
                go_roundg k1
                case measure => have := HK1.out; omega
                case rel => exact ⟨(x3_1.extract 0 ((ji4) : Int).toNat), (by first | rfl | (simp; done) | (simp only [← hji4] <;> (first | rfl | simp)) | (simp [*]; done)), H', ⟨by have := HK1.out; omega⟩, ⟨by (with_reducible repeat (first | refine blk_drewN ?_ _ | refine blk_drew ?_ | refine blk_alloc ?_ _)); exact BK169.out⟩, ⟨by repeat (first | (with_reducible first | exact HB.out | apply below_alloc | apply pw_below_drewN | apply below_drew1 | refine below_set ?_ GE169.out) | exact HB.out)⟩⟩
              · rw [if_neg c10] at H
                exact absurd H (by simp)
            · rw [if_neg c8] at H
              have c8b0 : ((bt x3_1 (ji4)) == 255) = false := beq_eq_false_iff_ne.mpr c8
              have c8b1 : ((bt x3_1 (ji4)) != 255) = true := bne_iff_ne.mpr c8
              have c11b0 := eq_true (of_decide_eq_true (by first | (with_reducible assumption) | assumption) : 0 ≤ (ji4))
              by_cases c12 : (ji4) ≤ (x3_1.size : Int)
              · rw [if_pos c12] at H
                have c12b0 := eq_true c12
                have c12b1 : decide ((ji4) ≤ (x3_1.size : Int)) = true := decide_eq_true c12
                clear c12
                obtain ⟨y170, hy170⟩ : ∃ y_ : List Int, y_ = (([((bt x3_1 (ji4)) + 1) % 256] : List Int)) := ⟨_, rfl⟩
                replace H : (if (x3_1.extract 0 ((ji4) : Int).toNat).size + (strOfNums y170).size ≤ 9223372036854775807 then (some (a0, (x3_1.extract 0 ((ji4) : Int).toNat) ++ (strOfNums y170))) else (none)) = some (r1, r2) := by first | (rw [hy170]; with_reducible exact H) | (have H2_ := (Option.bind_some _ _).symm.trans H; rw [hy170]; with_reducible exact H2_) | (have H2_ := (Option.bind_some _ _).symm.trans H; with_reducible exact H2_) | with_reducible exact H | (rw [hy170]; exact H) | exact H
                have Ny170 := Aside0.mk hy170
                clear hy170
                by_cases c14 : (x3_1.extract 0 ((ji4) : Int).toNat).size + (strOfNums y170).size ≤ 9223372036854775807
                · rw [if_pos c14] at H
                  have c14b0 := eq_true c14
                  have c14b1 : decide ((x3_1.extract 0 ((ji4) : Int).toNat).size + (strOfNums y170).size ≤ 9223372036854775807) = true := decide_eq_true c14
                  try have c14b2 : (9223372036854775807 < (x3_1.extract 0 ((ji4) : Int).toNat).size + (strOfNums y170).size) = False := eq_false (Nat.not_lt.2 c14)
                  have c14z : (x3_1.extract 0 ji4.toNat).size = ji4.toNat := by have h1 : 0 ≤ ji4 := (by (first | assumption | (apply of_eq_true; assumption) | (apply of_decide_eq_true; assumption))); have h2 : ji4 ≤ (x3_1.size : Int) := (by (first | assumption | (apply of_eq_true; assumption))); rw [ByteArray.size_extract]; try omega
                  have c14y : (9223372036854775807 < ji4.toNat + (strOfNums y170).size) = False := eq_false (by have := c14; rw [c14z] at this; omega)
                  clear c14z
                  simp only [Option.some.injEq, Prod.mk.injEq] at H
                  obtain ⟨rfl, rfl⟩ := H
                  have p7 : 0 ≤ ((ji4) : Int) := of_decide_eq_true (by first | (with_reducible assumption) | assumption)
                  have q7 : (ji4) < (x3_1.size : Int) := of_decide_eq_true (by first | (with_reducible assumption) | assumption)
                  have hx7 := bt_at x3_1 (ji4)
                  replace p7 := eq_true p7
                  replace q7 := eq_true q7
                  try go_wp2
                  have n0_ := Aside0.mk (blk_drew BK169.out)
                  have n1_ := Aside0.mk (below_drew1 HB.out)
                  clear BK169
                  clear HB
                  have BK169 := n0_
                  have HB := n1_
                  clear n0_ n1_
                  have p13 : 0 ≤ ((ji4) : Int) := of_decide_eq_true (by first | (with_reducible assumption) | assumption)
                  have q13 : (ji4) < (x3_1.size : Int) := of_decide_eq_true (by first | (with_reducible assumption) | assumption)
                  have hx13 := bt_at x3_1 (ji4)
                  replace p13 := eq_true p13
                  replace q13 := eq_true q13
                  refine start_ (n := 15) (S := fun w' => True) (ds := []) #[false, false, false, false, false, false, false, false, false, false, false, false, false, false, false] (by kernel_rfl) rfl rfl trivial (fun hHeld => ?_); refine with_tabW impostref04_Prefix.tab5 impostref04_Prefix.bits5 (fun HT_ HW_ => ?_)
                  generalize wr.drew = w15 at BK169 HB hHeld ⊢
                  refine pure_ (i := 0) (N := some 24) (v := ?_) (a' := ?_) #[true, false, false, false, false, false, false, false, false, false, false, false, false, false, false] rfl rfl (any_of HT_.out (by kernel_rfl)) (fun _ _ _ h => h) (Or.inl ⟨by rfl, ?_⟩) ?_ ?_
                  rotate_left
                  · intro w'
                    go_simp
                    with_reducible rfl
                  rotate_left
                  · simp only [Act.put, List.setIfInBounds_toArray, List.set_cons_zero, List.set_cons_succ, i64_w, i32_w]
                    rfl
                  refine pure_ (i := 1) (N := some 25) (v := ?_) (a' := ?_) #[true, true, false, false, false, false, false, false, false, false, false, false, false, false, false] rfl rfl (any_of HT_.out (by kernel_rfl)) (fun _ _ _ h => h) (Or.inl ⟨by rfl, ?_⟩) ?_ ?_
                  rotate_left
                  · intro w'
                    go_simp
                    with_reducible rfl
                  rotate_left
                  · simp only [Act.put, List.setIfInBounds_toArray, List.set_cons_zero, List.set_cons_succ, i64_w, i32_w]
                    rfl
                  refine pure_ (i := 2) (N := some 26) (v := ?_) (a' := ?_) #[true, true, true, false, false, false, false, false, false, false, false, false, false, false, false] rfl rfl (any_of HT_.out (by kernel_rfl)) (fun _ _ _ h => h) (Or.inl ⟨by rfl, ?_⟩) ?_ ?_
                  rotate_left
                  · intro w'
                    go_simp
                    with_reducible rfl
                  rotate_left
                  · simp only [Act.put, List.setIfInBounds_toArray, List.set_cons_zero, List.set_cons_succ, i64_w, i32_w]
                    rfl
                  refine pure_ (i := 3) (N := some 27) (v := ?_) (a' := ?_) #[true, true, true, true, false, false, false, false, false, false, false, false, false, false, false] rfl rfl (any_of HT_.out (by kernel_rfl)) (fun _ _ _ h => h) (Or.inl ⟨by rfl, ?_⟩) ?_ ?_
                  rotate_left
                  · intro w'
                    go_simp
                    with_reducible rfl
                  rotate_left
                  · simp only [Act.put, List.setIfInBounds_toArray, List.set_cons_zero, List.set_cons_succ, i64_w, i32_w]
                    rfl
                  refine pure_ (i := 4) (N := some 28) (v := ?_) (a' := ?_) #[true, true, true, true, true, false, false, false, false, false, false, false, false, false, false] rfl rfl (any_of HT_.out (by kernel_rfl)) (fun _ _ _ h => h) (Or.inl ⟨by rfl, ?_⟩) ?_ ?_
                  rotate_left
                  · intro w'
                    go_simp
                    with_reducible rfl
                  rotate_left
                  · simp only [Act.put, List.setIfInBounds_toArray, List.set_cons_zero, List.set_cons_succ, i64_w, i32_w]
                    rfl
                  refine pure_ (i := 5) (N := some 29) (v := ?_) (a' := ?_) #[true, true, true, true, true, true, false, false, false, false, false, false, false, false, false] rfl rfl (any_of HT_.out (by kernel_rfl)) (fun _ _ _ h => h) (Or.inl ⟨by rfl, ?_⟩) ?_ ?_
                  rotate_left
                  · intro w'
                    go_simp
                    with_reducible rfl
                  rotate_left
                  · simp only [Act.put, List.setIfInBounds_toArray, List.set_cons_zero, List.set_cons_succ, i64_w, i32_w]
                    rfl
                  refine pure_ (i := 6) (N := some 30) (v := ?_) (a' := ?_) #[true, true, true, true, true, true, true, false, false, false, false, false, false, false, false] rfl rfl (any_of HT_.out (by kernel_rfl)) (fun _ _ _ h => h) (Or.inl ⟨by rfl, ?_⟩) ?_ ?_
                  rotate_left
                  · intro w'
                    go_simp
                    with_reducible rfl
                  rotate_left
                  · simp only [Act.put, List.setIfInBounds_toArray, List.set_cons_zero, List.set_cons_succ, i64_w, i32_w]
                    rfl
                  refine pure_ (i := 7) (N := some 31) (v := ?_) (a' := ?_) #[true, true, true, true, true, true, true, true, false, false, false, false, false, false, false] rfl rfl (any_of HT_.out (by kernel_rfl)) (fun _ _ _ h => h) (Or.inl ⟨by rfl, ?_⟩) ?_ ?_
                  rotate_left
                  · intro w'
                    go_simp
                    with_reducible rfl
                  rotate_left
                  · simp only [Act.put, List.setIfInBounds_toArray, List.set_cons_zero, List.set_cons_succ, i64_w, i32_w]
                    rfl
                  refine pure_ (i := 8) (N := some 32) (v := ?_) (a' := ?_) #[true, true, true, true, true, true, true, true, true, false, false, false, false, false, false] rfl rfl (any_of HT_.out (by kernel_rfl)) (fun _ _ _ h => h) (Or.inl ⟨by rfl, ?_⟩) ?_ ?_
                  rotate_left
                  · intro w'
                    go_simp
                    with_reducible rfl
                  rotate_left
                  · simp only [Act.put, List.setIfInBounds_toArray, List.set_cons_zero, List.set_cons_succ, i64_w, i32_w]
                    rfl
                  refine take_ (i := 9) (N := some 33) (v := ?_) (a' := ?_) #[true, true, true, true, true, true, true, true, true, true, false, false, false, false, false] rfl rfl (take_ofW HT_.out HW_.out (by kernel_rfl)) (fun _ _ _ h => h) (Or.inl ⟨by rfl, ?_⟩) hHeld ?_ ?_
                  rotate_left
                  · intro w' _
                    go_simp
                    with_reducible rfl
                  rotate_left
                  · simp only [Act.put, List.setIfInBounds_toArray, List.set_cons_zero, List.set_cons_succ, i64_w, i32_w]
                    rfl
                  refine pure_ (i := 10) (N := some 34) (v := ?_) (a' := ?_) #[true, true, true, true, true, true, true, true, true, true, true, false, false, false, false] rfl rfl (any_of HT_.out (by kernel_rfl)) (fun _ _ _ h => h) (Or.inl ⟨by rfl, ?_⟩) ?_ ?_
                  rotate_left
                  · intro w'
                    go_simp
                    with_reducible rfl
                  rotate_left
                  · simp only [Act.put, List.setIfInBounds_toArray, List.set_cons_zero, List.set_cons_succ, i64_w, i32_w]
                    rfl
                  refine one_ (i := 11) (N := some 35) #[true, true, true, true, true, true, true, true, true, true, true, true, false, false, false] rfl rfl (one_of HT_.out (by kernel_rfl)) (by decide) (fun K hK => ?_)
                  refine Kd.R_lit_step (Kd.int .u8) _ 5 ?hg (N := 35) ?hd (xs := ([((bt x3_1 (ji4)) + 1) % 256] : List Int)) (inner := [.int .u8 (((bt x3_1 (ji4)) + 1) % 256)]) (ok := fun _ => True) (okp := fun _ => True) ?hr ?hp (fun _ hk => hk) trivial (Below.refl _ _) (Nat.le_refl _) (by simp) ?_; (case hd => rfl); (case hg => rfl); (case hr => first | (go_simp; done) | (go_simp; rfl)); (case hp => exact (Reps.one (show Kd.M (Kd.int .u8) _ _ _ (((bt x3_1 (ji4)) + 1) % 256) [.int .u8 (((bt x3_1 (ji4)) + 1) % 256)] from rfl) (Reps.none _ _)))
                  intro v171 w16 ho17 hb hg_ hnew_
                  clear hg_ hnew_
                  (first | rw [← Ny170.out] at ho17 | (simp only [Int.reduceToNat] at ho17; rw [← Ny170.out] at ho17))
                  have n0_ := Aside0.mk (Kd.R_lower ho17 (below_size (by repeat (first | (with_reducible first | exact HB.out | apply below_alloc | apply pw_below_drewN | apply below_drew1 | refine below_set ?_ GE169.out) | exact HB.out))))
                  have n1_ := Aside0.mk (blk_below (g := gb169) (o := .cells #[.string (⟨#[]⟩ : ByteArray), .string (⟨#[]⟩ : ByteArray)] 23 (0, 0)) (by (with_reducible repeat (first | refine blk_drewN ?_ _ | refine blk_drew ?_ | refine blk_alloc ?_ _)); exact BK169.out) hb)
                  have n2_ := Aside0.mk (below_step (by repeat (first | (with_reducible first | exact HB.out | apply below_alloc | apply pw_below_drewN | apply below_drew1 | refine below_set ?_ GE169.out) | exact HB.out)) hb)
                  clear BK169
                  clear HB
                  have HO172 := n0_
                  have BK169 := n1_
                  have HB := n2_
                  clear n0_ n1_ n2_
                  clear hb ho17
                  refine hK.out _ _ trivial (fun hHeld => ?_)
                  clear hK K
                  refine norm_ (a' := ?_) ?_ ?_
                  rotate_left
                  · show Act.put _ (some 35) _ = _
                    simp only [Act.put, List.setIfInBounds_toArray, List.set_cons_zero, List.set_cons_succ, i64_w, i32_w]
                    rfl
                  refine one_ (i := 12) (N := some 36) #[true, true, true, true, true, true, true, true, true, true, true, true, true, false, false] rfl rfl (one_of HT_.out (by kernel_rfl)) (by decide) (fun K hK => ?_)
                  have hcv18 := own_string (P := Try.prog) Try.underlying35 Try.underlying5 Try.underlying9 (Kd.own_of_R HO172.out)
                  refine value_ (w1 := ?_) (v := ?_) (by rfl) rfl ?_ ?_
                  rotate_left 2
                  · go_simp
                    constructor
                    · rfl
                    · rfl
                  clear hcv18
                  refine hK.out _ _ trivial (fun hHeld => ?_)
                  clear hK K
                  refine norm_ (a' := ?_) ?_ ?_
                  rotate_left
                  · show Act.put _ (some 36) _ = _
                    simp only [Act.put, List.setIfInBounds_toArray, List.set_cons_zero, List.set_cons_succ, i64_w, i32_w]
                    rfl
                  refine pure_ (i := 13) (N := some 37) (v := ?_) (a' := ?_) #[true, true, true, true, true, true, true, true, true, true, true, true, true, true, false] rfl rfl (any_of HT_.out (by kernel_rfl)) (fun _ _ _ h => h) (Or.inl ⟨by rfl, ?_⟩) ?_ ?_
                  rotate_left
                  · intro w'
                    go_simp
                    with_reducible rfl
                  rotate_left
                  · simp only [Act.put, List.setIfInBounds_toArray, List.set_cons_zero, List.set_cons_succ, i64_w, i32_w]
                    rfl
                  refine pure_ (i := 14) (N := some 3) (v := ?_) (a' := ?_) #[true, true, true, true, true, true, true, true, true, true, true, true, true, true, true] rfl rfl (any_of HT_.out (by kernel_rfl)) (fun _ _ _ h => h) (Or.inl ⟨by rfl, ?_⟩) ?_ ?_
                  rotate_left
                  · intro w'
                    go_simp
                    with_reducible rfl
                  rotate_left
                  · simp only [Act.put, List.setIfInBounds_toArray, List.set_cons_zero, List.set_cons_succ, i64_w, i32_w]
                    rfl
                  refine done_ (done_of HT_.out (by kernel_rfl)) ?_
                  have hcz19_0 : w16.cell? ⟨gb169, 0, none⟩ = some (.string (⟨#[]⟩ : ByteArray)) := (blk_cell BK169.out 0).trans rfl
                  have hcz19_1 : w16.cell? ⟨gb169, 1, none⟩ = some (.string (⟨#[]⟩ : ByteArray)) := (blk_cell BK169.out 1).trans rfl
                  have hfz19_0 := blk_frozen BK169.out 0
                  have hfz19_1 := blk_frozen BK169.out 1
                  try go_wp2
                  refine bodyPost_ret (results_cell_row rfl _ _ gb169 23 #[.string a0, .string ((x3_1.extract 0 ((ji4) : Int).toNat) ++ (strOfNums y170))] (0, 0) _ rfl (by (with_reducible repeat (first | refine blk_drewN ?_ _ | refine blk_drew ?_ | refine blk_alloc ?_ _)); refine blk_put (cs := #[.string a0, .string (⟨#[]⟩ : ByteArray)]) ?_ 1 _ rfl; (with_reducible repeat (first | refine blk_drewN ?_ _ | refine blk_drew ?_ | refine blk_alloc ?_ _)); refine blk_put (cs := #[.string (⟨#[]⟩ : ByteArray), .string (⟨#[]⟩ : ByteArray)]) ?_ 0 _ rfl; (with_reducible repeat (first | refine blk_drewN ?_ _ | refine blk_drew ?_ | refine blk_alloc ?_ _)); exact BK169.out) Try.underlying23 rfl (by kernel_rfl)) rfl ?_
                  exact ⟨by first | rfl | (simp [errW_none, errW_some] <;> rfl) | (simp only [← hji4]; first | rfl | (simp [errW_none, errW_some] <;> rfl)) | (simp [*, errW_none, errW_some] <;> rfl), by repeat (first | (with_reducible first | exact HB.out | apply below_alloc | apply pw_below_drewN | apply below_drew1 | refine below_set ?_ GE169.out) | exact HB.out)⟩
                · rw [if_neg c14] at H
                  exact absurd H (by simp)
              · rw [if_neg c12] at H
                exact absurd H (by simp)
          · rw [if_neg c6] at H
            exact absurd H (by simp)
        · rw [if_neg c5] at H
          exact absurd H (by simp)
      · rw [if_neg c3] at H
        have c3b0 : decide (0 < (x3_1.size : Int)) = false := decide_eq_false c3
        have c3b1 : decide (0 < x3_1.size) = false := decide_eq_false (by omega)
        clear c3
        simp only [Option.some.injEq, Prod.mk.injEq] at H
        obtain ⟨rfl, rfl⟩ := H
        have hcz20_0 : wr.cell? ⟨gb169, 0, none⟩ = some (.string (⟨#[]⟩ : ByteArray)) := (blk_cell BK169.out 0).trans rfl
        have hcz20_1 : wr.cell? ⟨gb169, 1, none⟩ = some (.string (⟨#[]⟩ : ByteArray)) := (blk_cell BK169.out 1).trans rfl
        have hfz20_0 := blk_frozen BK169.out 0
        have hfz20_1 := blk_frozen BK169.out 1
        go_wp2
        refine bodyPost_ret (results_cell_row rfl _ _ gb169 23 #[.string a0, .string x3_1] (0, 0) _ rfl (by (with_reducible repeat (first | refine blk_drewN ?_ _ | refine blk_drew ?_ | refine blk_alloc ?_ _)); refine blk_put (cs := #[.string a0, .string (⟨#[]⟩ : ByteArray)]) ?_ 1 _ rfl; (with_reducible repeat (first | refine blk_drewN ?_ _ | refine blk_drew ?_ | refine blk_alloc ?_ _)); refine blk_put (cs := #[.string (⟨#[]⟩ : ByteArray), .string (⟨#[]⟩ : ByteArray)]) ?_ 0 _ rfl; (with_reducible repeat (first | refine blk_drewN ?_ _ | refine blk_drew ?_ | refine blk_alloc ?_ _)); exact BK169.out) Try.underlying23 rfl (by kernel_rfl)) rfl ?_
        exact ⟨by first | rfl | (simp [errW_none, errW_some] <;> rfl) | (simp [*, errW_none, errW_some] <;> rfl), by repeat (first | (with_reducible first | exact HB.out | apply below_alloc | apply pw_below_drewN | apply below_drew1 | refine below_set ?_ GE169.out) | exact HB.out)⟩

end Go.Proofs.Ytpblbokdeappgab.Q
