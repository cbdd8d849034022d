/- package slab: New. -/
import Derived.Test.YtllibgjajlgnbaaSlab3
import Derived.RegionTactic
import Derived.ChangeAlike
namespace Go.Proofs.Ytllibgjajlgnbaa.Slab
open Go Go.RowKit Go.Proofs.Ytllibgjajlgnbaa.Only Go.Proofs.Ytllibgjajlgnbaa.Mem Go.Proofs.Ytllibgjajlgnbaa.New Go.Proofs.Ytllibgjajlgnbaa.Grow Go.Proofs.Ytllibgjajlgnbaa.Queue
set_option linter.unusedVariables false
set_option linter.unusedSimpArgs false

theorem info_bool : (Try.prog.info? 4).map (fun i => (i.zero, i.size, i.bytes)) = some (some (.bool false), 1, 1) := by kernel_rfl

set_option maxRecDepth 100000 in
theorem new_bad (m : Value) (hm : m = .pointer none ∨ ∃ a, m = .pointer (some a)) (words most : Int) (hw : -9223372036854775808 ≤ words ∧ words ≤ 9223372036854775807) (hmo : -9223372036854775808 ≤ most ∧ most ≤ 9223372036854775807) (hb : words < 1 ∨ most < 1 ∨ (1 ≤ words ∧ 65536 / words < most)) (w : World) :
    Calls Try.prog 33 #[m, .int .i64 words, .int .i64 most] w fun e w' => e = .returned (.pointer none) ∧ w = w' := by
  rcases hm with rfl | ⟨a, rfl⟩
  · clear hb
    go_enter Try.func33, Try.ntmps33
    go_wp2
    go_ret
    exact ⟨rfl, rfl⟩
  · by_cases h1 : words < 1
    · have b1 : decide (words < 1) = true := by simpa using h1
      clear hb
      go_enter Try.func33, Try.ntmps33
      go_wp2
      go_ret
      exact ⟨rfl, rfl⟩
    · have b1 : decide (words < 1) = false := by simpa using h1
      by_cases h2 : most < 1
      · have b2 : decide (most < 1) = true := by simpa using h2
        clear hb
        go_enter Try.func33, Try.ntmps33
        go_wp2
        go_ret
        exact ⟨rfl, rfl⟩
      · have b2 : decide (most < 1) = false := by simpa using h2
        have h3 : 65536 / words < most := by
          rcases hb with h | h | h
          · exact absurd h h1
          · exact absurd h h2
          · exact h.2
        have b3 : decide (65536 / words < most) = true := by simpa using h3
        have h4 : 1 ≤ words := by omega
        clear hb h1 h2 h3
        go_enter Try.func33, Try.ntmps33
        go_wp2
        go_ret
        exact ⟨rfl, rfl⟩
set_option maxRecDepth 100000 in
theorem new_nil (words most : Int) (w : World) :
    Calls Try.prog 33 #[.pointer none, .int .i64 words, .int .i64 most] w fun e w' => e = .returned (.pointer none) ∧ w = w' := by
  go_enter Try.func33, Try.ntmps33
  go_wp2
  go_ret
  exact ⟨rfl, rfl⟩
section
set_option maxRecDepth 100000 in
theorem nil_alloc (w : World) : Calls Try.prog 31 #[.pointer none] w fun e w' => e = .returned (.tuple #[.int .u64 0, .int .i64 1]) ∧ w = w' := by
  go_enter Try.func31, Try.ntmps31
  go_wp2
  go_ret2
  exact ⟨rfl, rfl⟩
set_option maxRecDepth 100000 in
theorem nil_free (r : Int) (w : World) : Calls Try.prog 30 #[.pointer none, .int .u64 r] w fun e w' => e = .returned (.int .i64 1) ∧ w = w' := by
  go_enter Try.func30, Try.ntmps30
  go_wp2
  go_ret
  exact ⟨rfl, rfl⟩
set_option maxRecDepth 100000 in
theorem nil_cell (r i : Int) (w : World) : Calls Try.prog 27 #[.pointer none, .int .u64 r, .int .i64 i] w fun e w' => e = .returned (.tuple #[.int .i64 0, .int .i64 1]) ∧ w = w' := by
  go_enter Try.func27, Try.ntmps27
  go_wp2
  go_ret2
  exact ⟨rfl, rfl⟩
set_option maxRecDepth 100000 in
theorem nil_live (w : World) : Calls Try.prog 28 #[.pointer none] w fun e w' => e = .returned (.int .i64 0) ∧ w = w' := by
  go_enter Try.func28, Try.ntmps28
  go_wp2
  go_ret
  exact ⟨rfl, rfl⟩
end

theorem three (w1 : World) (X Y Z : Obj) : (((w1.alloc X).alloc Y).alloc Z).heap[w1.heap.size]? = some X ∧ (((w1.alloc X).alloc Y).alloc Z).heap[w1.heap.size + 1]? = some Y ∧ (((w1.alloc X).alloc Y).alloc Z).heap[w1.heap.size + 1 + 1]? = some Z ∧ Below w1.heap.size w1 (((w1.alloc X).alloc Y).alloc Z) := by
  have s1 : (w1.alloc X).heap.size = w1.heap.size + 1 := by simp
  have s2 : ((w1.alloc X).alloc Y).heap.size = w1.heap.size + 1 + 1 := by simp
  have n3 := heap_alloc_new ((w1.alloc X).alloc Y) Z
  rw [s2] at n3
  have n2 := heap_alloc_new (w1.alloc X) Y
  rw [s1] at n2
  exact ⟨(heap_alloc_old _ _ (by omega)).trans ((heap_alloc_old _ _ (by omega)).trans (heap_alloc_new w1 X)), (heap_alloc_old _ _ (by omega)).trans n2, n3, (((Below.refl _ _).alloc (Nat.le_refl _) _).alloc (by simp) _).alloc (by simp; omega) _⟩
theorem own_made {w : World} {k B most : Nat} {z : Value} {T : TypeId} (h : w.heap[k]? = some (.cells (madeCells #[z] most) T (0, 0))) (hB : B ≤ k) (hm : most ≤ 65536) : w.ownsRow B T 1 (.slice (some ⟨k, 0, none⟩) most most) most (List.replicate most z) := by
  refine ⟨by simp, .inr ⟨k, most, _, rfl, hB, h, Nat.le_refl _, by simp [maxLen]; omega, by rw [size_madeCells]; simp, ?_⟩⟩
  rw [toList_madeCells_one]
  simp
theorem below_drew {B : Nat} {w W : World} (h : Below B w W) : Below B w W.drew := ⟨h.os, h.tape, h.output, h.size, h.block⟩

/-- A new slab. -/
def newS (first : Int) (words most : Nat) (k : Nat) : Sl := ⟨first, words, List.replicate most 0, List.replicate most false, (List.range k).map (fun (i : Nat) => (i : Int))⟩
def Newed (B p : Nat) (C : List Int) (n : Int) (words most : Nat) (w : World) (e : Ending) (w' : World) : Prop :=
  ∃ sb v' vg vt vr, e = .returned (.pointer (some ⟨sb, 0, none⟩)) ∧ SlabAt B sb p v' (C ++ List.replicate (words * most) 0) n vg vt vr (newS C.length words most most) w' ∧ Below B w w'

theorem newAt {B p : Nat} {v : Value} {C : List Int} {n : Int} {w1 wx : World} {first : Int} {words most g1 g2 sb : Nat} (h : MemAt B p v C n w1) (hb : Below w1.heap.size w1 wx) (h1 : wx.heap[g1]? = some (.cells (madeCells #[.int .i64 0] most) 3 (0, 0))) (h2 : wx.heap[g2]? = some (.cells (madeCells #[.bool false] most) 4 (0, 0)))
    (h3 : wx.heap[sb]? = some (.cells #[.pointer (some ⟨p, 0, none⟩), .int .i64 first, .int .i64 words, .slice (some ⟨g1, 0, none⟩) most most, .slice (some ⟨g2, 0, none⟩) most most, .slice none 0 0] 97 (0, 0))) (hB1 : B ≤ g1) (hB2 : B ≤ g2) (hB3 : B ≤ sb) (hm : most ≤ 65536) (hm0 : most ≤ 65536) (ht : True) :
    SlabAt B sb p v C n (.slice (some ⟨g1, 0, none⟩) most most) (.slice (some ⟨g2, 0, none⟩) most most) (.slice none 0 0) ⟨first, words, List.replicate most 0, List.replicate most false, (List.range 0).map (fun (i : Nat) => (i : Int))⟩ wx := by
  refine ⟨h.below hb, h3, ?_, ?_, .inl ⟨rfl, rfl⟩, hB3, fun k hk e => by cases e⟩
  · have := own_made h1 hB1 hm
    simpa using this
  · have := own_made h2 hB2 hm
    simpa using this

set_option maxHeartbeats 8000000 in
set_option maxRecDepth 100000 in
theorem new {B p : Nat} {v : Value} {C : List Int} {n : Int} {w : World} (h : MemAt B p v C n w) (hB : B ≤ w.heap.size) (words most : Nat) (hw : 1 ≤ words) (hm : 1 ≤ most) (hfit : C.length + words * most ≤ 65536) :
    Calls Try.prog 33 #[.pointer (some ⟨p, 0, none⟩), .int .i64 words, .int .i64 most] w (Newed B p C n words most w) := by
  obtain ⟨i0, hi, hzz⟩ := Option.map_eq_some_iff.1 info_int
  simp only [Prod.mk.injEq] at hzz
  obtain ⟨hz0, hz1, hz2⟩ := hzz
  have hww : words ≤ words * most := Nat.le_mul_of_pos_right _ hm
  have hmm : most ≤ words * most := Nat.le_mul_of_pos_left _ hw
  have b1 : decide ((words : Int) < 1) = false := by simp; omega
  have b2 : decide ((most : Int) < 1) = false := by simp; omega
  have hq : most ≤ 65536 / words := (Nat.le_div_iff_mul_le hw).2 (by rw [Nat.mul_comm]; omega)
  have b3 : decide ((65536 : Int) / (words : Int) < (most : Int)) = false := by
    rw [decide_eq_false_iff_not]
    have : ((65536 / words : Nat) : Int) = (65536 : Int) / (words : Int) := by simp
    rw [← this]
    omega
  have ec : ((words * most : Nat) : Int) = (words : Int) * (most : Int) := by simp
  have hg := Grow.grow h hB (words * most) hfit
  rw [ec] at hg
  replace hg := Lib.hid hg
  clear ec
  replace h := Lib.hid h
  clear hq
  go_enter Try.func33, Try.ntmps33
  go_wp2_with fail
  refine hg.out.mono ?_
  rintro e w1 ⟨rfl, v', m1, o1, hat1⟩
  have hb1 := footB h.out o1 hB
  have q1 := hb1.size
  have q1' := o1.size
  have M1 := Lib.hid m1
  replace hb1 := Lib.hid hb1
  clear m1 o1 hat1 hg
  have mk1 : ∀ w : World, (Instr.makeSlice 49 (.int .i64 most) (.int .i64 most)).run Try.prog w = .ok (.slice (some ⟨w.heap.size, 0, none⟩) most most) (w.alloc (.cells (madeCells #[.int .i64 0] most) 3)) := fun w => run_make_row' (P := Try.prog) 49 3 (.int .i64 0) 8 Try.underlying49 info_int rfl .i64 .i64 most (by omega) (by omega) w
  have mk2 : ∀ w : World, (Instr.makeSlice 50 (.int .i64 most) (.int .i64 most)).run Try.prog w = .ok (.slice (some ⟨w.heap.size, 0, none⟩) most most) (w.alloc (.cells (madeCells #[.bool false] most) 4)) := fun w => run_make_row' (P := Try.prog) 50 4 (.bool false) 1 Try.underlying50 info_bool rfl .i64 .i64 most (by omega) (by omega) w
  go_upto_region 6 with fail
  go_cut [9] (fun s9 wx => ∃ (sb : Nat) (vg vt : Value), s9 = .pointer (some ⟨sb, 0, none⟩) ∧ Hid (SlabAt B sb p v' (C ++ List.replicate (words * most) 0) n vg vt (.slice none 0 0) (newS C.length words most 0) wx) ∧ Hid (Below B w wx))
  case first =>
    go_region
    · obtain ⟨x1, x2, x3, x4⟩ := three w1 (.cells (madeCells #[.int .i64 0] most) 3) (.cells (madeCells #[.bool false] most) 4) (.cells #[.pointer (some ⟨p, 0, none⟩), .int .i64 C.length, .int .i64 words, .slice (some ⟨w1.heap.size, 0, none⟩) most most, .slice (some ⟨w1.heap.size + 1, 0, none⟩) most most, .slice none 0 0] 97)
      have fin := Lib.hid (newAt M1.out x4 x1 x2 x3 (by omega) (by omega) (by omega) (by omega) (by omega) (by simp))
      have belx := Lib.hid (hb1.out.trans (x4.mono (by omega)))
      clear x1 x2 x3 x4
      go_wp2_with fail
      go_meet
      exact ⟨_, _, _, rfl, Lib.hid fin.out.drew, Lib.hid (below_drew belx.out)⟩
    · obtain ⟨x2, x1, x3, x4⟩ := three w1 (.cells (madeCells #[.bool false] most) 4) (.cells (madeCells #[.int .i64 0] most) 3) (.cells #[.pointer (some ⟨p, 0, none⟩), .int .i64 C.length, .int .i64 words, .slice (some ⟨w1.heap.size + 1, 0, none⟩) most most, .slice (some ⟨w1.heap.size, 0, none⟩) most most, .slice none 0 0] 97)
      have fin := Lib.hid (newAt M1.out x4 x1 x2 x3 (by omega) (by omega) (by omega) (by omega) (by omega) (by simp))
      have belx := Lib.hid (hb1.out.trans (x4.mono (by omega)))
      clear x1 x2 x3 x4
      go_wp2_with fail
      go_meet
      exact ⟨_, _, _, rfl, Lib.hid fin.out.drew, Lib.hid (below_drew belx.out)⟩
  case rest =>
    obtain ⟨sb, vg, vt, rfl, h2, B2⟩ := hcut
    obtain ⟨w2, rfl⟩ : ∃ x, x = wc := ⟨_, rfl⟩
    clear M1 mk1 mk2 hb1 h
    go_wp2_with fail
    go_loopw [47] (fun c wr => ∃ (k : Nat) (vr : Value), k ≤ most ∧ c = .int .i64 k ∧ Hid (SlabAt B sb p v' (C ++ List.replicate (words * most) 0) n vg vt vr (newS C.length words most k) wr) ∧ Hid (Below B w wr))
      (fun c _ => most - (intOf c).toNat)
    case atStart => exact ⟨0, _, by omega, rfl, h2, B2⟩
    case round =>
      clear h2 B2
      obtain ⟨k, vr, hk, rfl, h, hb⟩ := hrel
      obtain ⟨k0, k1, k2, k3, k4, k5⟩ := cells6 h.out.blk
      have qr := hb.out.size
      by_cases hlt : k < most
      · have bk : decide ((k : Int) < (most : Int)) = true := by simp; omega
        have hl : (newS C.length words most k).row.length ≤ 65536 := by simp [newS]; omega
        go_wp2_with (at_builtin; refine append_plain rfl _ _ 49 rfl i0 Try.underlying49 hi hz0 hz1 hz2 rfl (Queue.alloc h.out.r _) (by simp; omega) _ _ rfl (k : Int) (cell_one_new _ _ _) hl ?_)
        intro v3 w3 hq3 hg3 hat3
        have HW := Lib.hid (h.out.alloc (.cells #[.int .i64 k] 3))
        have X3 := (hg3.block sb (lt_of_heap HW.out.blk) (HW.out.sbr)).trans HW.out.blk
        obtain ⟨A3, c3, hv3, hc3, -⟩ := hq3.any
        subst hv3
        obtain ⟨y0, y1, y2, y3, y4, y5⟩ := cells6 X3
        have f5 : w3.frozen? ⟨sb, 5, none⟩ = false := by simp [World.frozen?, X3]
        have el : ((newS C.length words most k).row ++ [(k : Int)]).length = k + 1 := by simp [newS]
        have er : (newS C.length words most k).row ++ [(k : Int)] = (newS C.length words most (k + 1)).row := by simp [newS, List.range_succ]
        have fin := SlabAt.setR HW.out hq3 hg3 (hat3.imp id (fun e => e.trans (by simp)))
        rw [er] at fin
        have el2 : (newS C.length words most (k + 1)).row.length = k + 1 := by simp [newS]
        rw [el2] at fin
        rw [el]
        have belx : Below B w (w3.setCell ⟨sb, 5, none⟩ (.slice A3 (k + 1) c3)) := by
          have hbw := hb.out.alloc (show B ≤ wr.heap.size by omega) (.cells #[.int .i64 k] 3)
          have q2 : B ≤ (wr.alloc (.cells #[.int .i64 k] 3)).heap.size := by simp; omega
          have hg4 : Below B w w3 := ⟨hg3.os.trans hbw.os, hg3.tape.trans hbw.tape, hg3.output.trans hbw.output, Nat.le_trans hbw.size hg3.size, fun j hj => (hg3.block j (Nat.lt_of_lt_of_le hj q2) (fun e => by
            have := (h.out.r.lt e.symm).1
            omega)).trans (hbw.block j hj)⟩
          exact hg4.setCell (p := ⟨sb, 5, none⟩) h.out.base _
        replace fin := Lib.hid fin
        replace belx := Lib.hid belx
        clear hq3 hg3 hat3 X3 el er el2 h hb k0 k1 k2 k3 k4 k5
        go_wp2_with fail
        exact ⟨⟨k + 1, _, by omega, by go_num, fin, belx⟩, by simp [intOf]; omega⟩
      · obtain rfl : k = most := by omega
        have bk : decide ((k : Int) < (k : Int)) = false := by simp
        go_wp2
        go_ret
        exact ⟨sb, v', vg, vt, vr, rfl, h.out, hb.out⟩
end Go.Proofs.Ytllibgjajlgnbaa.Slab
