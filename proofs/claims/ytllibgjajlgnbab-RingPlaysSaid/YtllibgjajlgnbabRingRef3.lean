/- The reference's log: Publish. Laid by genringref2.py. -/
import Derived.Test.YtllibgjajlgnbabRingRef2
namespace Go.Proofs.Ytllibgjajlgnbab.RingRef
open Go Go.RowKit Go.Proofs.Ytllibgjajlgnbab.Only Go.Proofs.Ytllibgjajlgnbab.Mem Go.Proofs.Ytllibgjajlgnbab.New Go.Proofs.Ytllibgjajlgnbab.Ref Go.Proofs.Ytllibgjajlgnbab.Ring
set_option linter.unusedVariables false
set_option linter.unusedSimpArgs false

/-- The two heads' blocks. -/
structure Heads (w0 : World) (a0 a1 a2 d0 d1 d2 : Int) (w : World) : Prop where
  A : w.heap[w0.heap.size + 1]? = some (.cells #[.int .i64 a0, .int .i64 a1, .int .i64 a2] 41 (0, 0))
  D : w.heap[w0.heap.size + 1 + 1]? = some (.cells #[.int .i64 d0, .int .i64 d1, .int .i64 d2] 41 (0, 0))
theorem Heads.next {w0 w w' : World} {a0 a1 a2 d0 d1 d2 : Int} (h : Heads w0 a0 a1 a2 d0 d1 d2 w) (hb : Below w.heap.size w w') : Heads w0 a0 a1 a2 d0 d1 d2 w' :=
  ⟨(hb.block _ (lt_of_heap h.A)).trans h.A, (hb.block _ (lt_of_heap h.D)).trans h.D⟩
theorem Heads.drew {w0 w : World} {a0 a1 a2 d0 d1 d2 : Int} (h : Heads w0 a0 a1 a2 d0 d1 d2 w) : Heads w0 a0 a1 a2 d0 d1 d2 w.drew := ⟨h.A, h.D⟩
theorem Heads.S {T : TypeId} {q : Nat} {w0 w : World} {x0 x1 x2 y0 y1 y2 : Value} {a0 a1 a2 d0 d1 d2 : Int} (F : Fr3 T q w0 x0 x1 x2 y0 y1 y2 w) (h : Heads w0 a0 a1 a2 d0 d1 d2 w) :
    w.cell? ⟨w0.heap.size, 0, none⟩ = some x0 ∧ w.cell? ⟨w0.heap.size, 1, none⟩ = some x1 ∧ w.cell? ⟨w0.heap.size, 2, none⟩ = some x2 ∧ w.cell? ⟨w0.heap.size + 1, 0, none⟩ = some (.int .i64 a0) ∧ w.cell? ⟨w0.heap.size + 1, 1, none⟩ = some (.int .i64 a1) ∧ w.cell? ⟨w0.heap.size + 1, 2, none⟩ = some (.int .i64 a2) ∧ w.cell? ⟨w0.heap.size + 1 + 1, 0, none⟩ = some (.int .i64 d0) ∧ w.cell? ⟨w0.heap.size + 1 + 1, 1, none⟩ = some (.int .i64 d1) ∧ w.cell? ⟨w0.heap.size + 1 + 1, 2, none⟩ = some (.int .i64 d2) := by
  have e1 := h.A
  have e2 := h.D
  have e0 := F.arg
  simp [World.cell?, e0, e1, e2]
theorem pubStart (w : World) (x0 x1 x2 y0 y1 y2 : Value) (a0 a1 a2 d0 d1 d2 : Int) (T : TypeId) :
    Fr3 T (w.heap.size + 1 + 1 + 1) w x0 x1 x2 y0 y1 y2 ((((w.alloc (.cells #[x0, x1, x2] T)).alloc (.cells #[.int .i64 a0, .int .i64 a1, .int .i64 a2] 41)).alloc (.cells #[.int .i64 d0, .int .i64 d1, .int .i64 d2] 41)).alloc (.cells #[y0, y1, y2] T)) ∧
    Heads w a0 a1 a2 d0 d1 d2 ((((w.alloc (.cells #[x0, x1, x2] T)).alloc (.cells #[.int .i64 a0, .int .i64 a1, .int .i64 a2] 41)).alloc (.cells #[.int .i64 d0, .int .i64 d1, .int .i64 d2] 41)).alloc (.cells #[y0, y1, y2] T)) := by
  refine ⟨⟨?_, ?_, ?_, by omega⟩, ?_, ?_⟩
  · rw [heap_alloc_old _ _ (by simp <;> omega), heap_alloc_old _ _ (by simp <;> omega), heap_alloc_old _ _ (by simp)]; exact new3 _ _ _ _ _
  · have := new3 (((w.alloc (.cells #[x0, x1, x2] T)).alloc (.cells #[.int .i64 a0, .int .i64 a1, .int .i64 a2] 41)).alloc (.cells #[.int .i64 d0, .int .i64 d1, .int .i64 d2] 41)) y0 y1 y2 T
    simpa using this
  · exact ((((Below.refl _ _).alloc (Nat.le_refl _) _).alloc (by simp) _).alloc (by simp <;> omega) _).alloc (by simp <;> omega) _
  · rw [heap_alloc_old _ _ (by simp <;> omega), heap_alloc_old _ _ (by simp)]
    have := new3 (w.alloc (.cells #[x0, x1, x2] T)) (.int .i64 a0) (.int .i64 a1) (.int .i64 a2) 41
    simpa using this
  · rw [heap_alloc_old _ _ (by simp)]
    have := new3 ((w.alloc (.cells #[x0, x1, x2] T)).alloc (.cells #[.int .i64 a0, .int .i64 a1, .int .i64 a2] 41)) (.int .i64 d0) (.int .i64 d1) (.int .i64 d2) 41
    simpa using this

/-- What Publish leaves. -/
def RPub (B : Nat) (s : Value) (D : List Int) (cnt x y : Int) (w : World) (e : Ending) (w' : World) : Prop :=
  ∃ s', e = .returned (.tuple #[.agg #[s', .int .i64 (cnt + 1), .int .i64 2], .bool (casB D 2 x)]) ∧ RefNext B s s' (casAt D 2 x y) w w'

set_option maxHeartbeats 8000000 in
set_option maxRecDepth 100000 in
theorem publish (s : Value) (D : List Int) (w : World) (B : Nat) (h : RefAt B s D w) (hl : D.length = 35) (hB : B ≤ w.heap.size) (cnt : Int) (hc : 0 ≤ cnt ∧ cnt < 4611686018427387904) (a0 a1 a2 d0 d1 d2 : Int) (ha0 : -9223372036854775808 ≤ a0 ∧ a0 ≤ 9223372036854775807) (ha1 : -9223372036854775808 ≤ a1 ∧ a1 ≤ 9223372036854775807) (ha2 : -9223372036854775808 ≤ a2 ∧ a2 ≤ 9223372036854775807) (hd0 : -9223372036854775808 ≤ d0 ∧ d0 ≤ 9223372036854775807) (hd1 : -9223372036854775808 ≤ d1 ∧ d1 ≤ 9223372036854775807) (hd2 : -9223372036854775808 ≤ d2 ∧ d2 ≤ 9223372036854775807) :
    Calls Try.prog 46 #[.agg #[s, .int .i64 cnt, .int .i64 2], .agg #[.int .i64 a0, .int .i64 a1, .int .i64 a2], .agg #[.int .i64 d0, .int .i64 d1, .int .i64 d2]] w (RPub B s D cnt (Bits.head a0 a1 a2) (Bits.head d0 d1 d2) w) := by
  obtain ⟨A, cap, rfl, hcap⟩ := own_any h.own
  obtain ⟨F3, G3⟩ := pubStart w (.slice A D.length cap) (.int .i64 cnt) (.int .i64 2) (.slice none 0 0) (.int .i64 0) (.int .i64 0) a0 a1 a2 d0 d1 d2 37
  have H := Lib.hid h
  replace hl := Lib.hid hl
  have h3 := h.below F3.bel
  clear h
  have F3 := Lib.hid F3
  have G3 := Lib.hid G3
  have h3 := Lib.hid h3
  go_enter Try.func46, Try.ntmps46
  go_wp2_with fail
  generalize ((((w.alloc (.cells #[.slice A D.length cap, .int .i64 cnt, .int .i64 2] 37)).alloc (.cells #[.int .i64 a0, .int .i64 a1, .int .i64 a2] 41)).alloc (.cells #[.int .i64 d0, .int .i64 d1, .int .i64 d2] 41)).alloc (.cells #[.slice none 0 0, .int .i64 0, .int .i64 0] 37)) = w3 at *
  obtain ⟨⟨x0, x1, x2⟩, _, _, _⟩ := cell3 F3.out.arg
  obtain ⟨⟨x3, x4, x5⟩, _, _, _⟩ := cell3 G3.out.A
  obtain ⟨⟨x6, x7, x8⟩, _, _, _⟩ := cell3 G3.out.D
  obtain ⟨⟨r0, r1, r2⟩, q0, q1, q2⟩ := cell3 F3.out.res
  have hin : inR D 2 = true := by have := hl.out; rw [inR_true]; omega
  have hr3 := lt_of_heap F3.out.res
  have F4 := Lib.hid F3.out.drew
  have G4 := Lib.hid G3.out.drew
  have h4 := Lib.hid (RefAt.drew h3.out)
  have n3a : ¬ w3.heap.size = w.heap.size := by omega
  have n3b : ¬ w.heap.size = w3.heap.size := by omega
  have n3c : ¬ w3.heap.size = w.heap.size + 1 := by omega
  have n3d : ¬ w.heap.size + 1 = w3.heap.size := by omega
  have n3e : ¬ w3.heap.size = w.heap.size + 1 + 1 := by omega
  have n3f : ¬ w.heap.size + 1 + 1 = w3.heap.size := by omega
  have hlen := casAt_length D 2 (Bits.head a0 a1 a2) (Bits.head d0 d1 d2)
  go_region_held3 (fun w' => w'.cell? ⟨w.heap.size, 0, none⟩ = some (.slice A D.length cap) ∧ w'.cell? ⟨w.heap.size, 1, none⟩ = some (.int .i64 cnt) ∧ w'.cell? ⟨w.heap.size, 2, none⟩ = some (.int .i64 2) ∧ w'.cell? ⟨w.heap.size + 1, 0, none⟩ = some (.int .i64 a0) ∧ w'.cell? ⟨w.heap.size + 1, 1, none⟩ = some (.int .i64 a1) ∧ w'.cell? ⟨w.heap.size + 1, 2, none⟩ = some (.int .i64 a2) ∧ w'.cell? ⟨w.heap.size + 1 + 1, 0, none⟩ = some (.int .i64 d0) ∧ w'.cell? ⟨w.heap.size + 1 + 1, 1, none⟩ = some (.int .i64 d1) ∧ w'.cell? ⟨w.heap.size + 1 + 1, 2, none⟩ = some (.int .i64 d2))
    (first | go_keep | exact S5)
    (first
      | (go_at_call_of 62 (Value.agg #[.int .i64 a0, .int .i64 a1, .int .i64 a2]) ; refine (Words.refHead _ a0 a1 a2 ha0 ha1 ha2).mono ?_ ; rintro e w6 ⟨rfl, hb6⟩ ; have F6 : Fr3 37 (w.heap.size + 1 + 1 + 1) w (.slice A D.length cap) (.int .i64 cnt) (.int .i64 2) (.slice none 0 0) (.int .i64 0) (.int .i64 0) w6 := (by first | exact F5.out.next hb6 | exact (F5.out.next (al _ _)).next hb6) ; have h6 : RefAt B (.slice A D.length cap) D w6 := (by first | exact h5.out.below hb6 | exact (h5.out.below (al _ _)).below hb6) ; have G6 : Heads w a0 a1 a2 d0 d1 d2 w6 := (by first | exact G5.out.next hb6 | exact (G5.out.next (al _ _)).next hb6) ; have S5 := Heads.S F6 G6 ; have G6 := Lib.hid G6 ; have l6 := lt_of_heap F6.res ; have n6a : ¬ w6.heap.size = w.heap.size := (by omega) ; have n6b : ¬ w.heap.size = w6.heap.size := (by omega) ; have n6c : ¬ w6.heap.size = w.heap.size + 1 := (by omega) ; have n6d : ¬ w.heap.size + 1 = w6.heap.size := (by omega) ; have n6e : ¬ w6.heap.size = w.heap.size + 1 + 1 := (by omega) ; have n6f : ¬ w.heap.size + 1 + 1 = w6.heap.size := (by omega) ; (first | (have y6 : w6.heap[w5.heap.size]? = some (.cells #[.slice none 0 0, .int .i64 0] 35 (0, 0)) := (hb6.block _ (by simp)).trans (new2 (w5) (.slice none 0 0) (.int .i64 0) 35) ; have j6 := lt_of_heap y6 ; obtain ⟨y60, y61, y62, y63⟩ := cell2 y6) | (have y6 := (hb6.block _ j5).trans y5 ; have j6 := lt_of_heap y6 ; obtain ⟨y60, y61, y62, y63⟩ := cell2 y6) | skip) ; have F6 := Lib.hid F6 ; have h6 := Lib.hid h6 ; clear hb6)
      | (go_at_call_of 62 (Value.agg #[.int .i64 d0, .int .i64 d1, .int .i64 d2]) ; refine (Words.refHead _ d0 d1 d2 hd0 hd1 hd2).mono ?_ ; rintro e w6 ⟨rfl, hb6⟩ ; have F6 : Fr3 37 (w.heap.size + 1 + 1 + 1) w (.slice A D.length cap) (.int .i64 cnt) (.int .i64 2) (.slice none 0 0) (.int .i64 0) (.int .i64 0) w6 := (by first | exact F5.out.next hb6 | exact (F5.out.next (al _ _)).next hb6) ; have h6 : RefAt B (.slice A D.length cap) D w6 := (by first | exact h5.out.below hb6 | exact (h5.out.below (al _ _)).below hb6) ; have G6 : Heads w a0 a1 a2 d0 d1 d2 w6 := (by first | exact G5.out.next hb6 | exact (G5.out.next (al _ _)).next hb6) ; have S5 := Heads.S F6 G6 ; have G6 := Lib.hid G6 ; have l6 := lt_of_heap F6.res ; have n6a : ¬ w6.heap.size = w.heap.size := (by omega) ; have n6b : ¬ w.heap.size = w6.heap.size := (by omega) ; have n6c : ¬ w6.heap.size = w.heap.size + 1 := (by omega) ; have n6d : ¬ w.heap.size + 1 = w6.heap.size := (by omega) ; have n6e : ¬ w6.heap.size = w.heap.size + 1 + 1 := (by omega) ; have n6f : ¬ w.heap.size + 1 + 1 = w6.heap.size := (by omega) ; (first | (have y6 : w6.heap[w5.heap.size]? = some (.cells #[.slice none 0 0, .int .i64 0] 35 (0, 0)) := (hb6.block _ (by simp)).trans (new2 (w5) (.slice none 0 0) (.int .i64 0) 35) ; have j6 := lt_of_heap y6 ; obtain ⟨y60, y61, y62, y63⟩ := cell2 y6) | (have y6 := (hb6.block _ j5).trans y5 ; have j6 := lt_of_heap y6 ; obtain ⟨y60, y61, y62, y63⟩ := cell2 y6) | skip) ; have F6 := Lib.hid F6 ; have h6 := Lib.hid h6 ; clear hb6)
      | (go_at_call_of 62 (Value.agg #[.int .i64 a0, .int .i64 a1, .int .i64 a2]) ; refine (Words.refHead _ a0 a1 a2 ha0 ha1 ha2).mono ?_ ; rintro e w5 ⟨rfl, hb5⟩ ; have F5 : Fr3 37 (w.heap.size + 1 + 1 + 1) w (.slice A D.length cap) (.int .i64 cnt) (.int .i64 2) (.slice none 0 0) (.int .i64 0) (.int .i64 0) w5 := (by first | exact F4.out.next hb5 | exact (F4.out.next (al _ _)).next hb5) ; have h5 : RefAt B (.slice A D.length cap) D w5 := (by first | exact h4.out.below hb5 | exact (h4.out.below (al _ _)).below hb5) ; have G5 : Heads w a0 a1 a2 d0 d1 d2 w5 := (by first | exact G4.out.next hb5 | exact (G4.out.next (al _ _)).next hb5) ; have S5 := Heads.S F5 G5 ; have G5 := Lib.hid G5 ; have l5 := lt_of_heap F5.res ; have n5a : ¬ w5.heap.size = w.heap.size := (by omega) ; have n5b : ¬ w.heap.size = w5.heap.size := (by omega) ; have n5c : ¬ w5.heap.size = w.heap.size + 1 := (by omega) ; have n5d : ¬ w.heap.size + 1 = w5.heap.size := (by omega) ; have n5e : ¬ w5.heap.size = w.heap.size + 1 + 1 := (by omega) ; have n5f : ¬ w.heap.size + 1 + 1 = w5.heap.size := (by omega) ; (first | (have y5 : w5.heap[w3.heap.size]? = some (.cells #[.slice none 0 0, .int .i64 0] 35 (0, 0)) := (hb5.block _ (by simp)).trans (new2 (w3.drew) (.slice none 0 0) (.int .i64 0) 35) ; have j5 := lt_of_heap y5 ; obtain ⟨y50, y51, y52, y53⟩ := cell2 y5) | (have y5 := (hb5.block _ j4).trans y4 ; have j5 := lt_of_heap y5 ; obtain ⟨y50, y51, y52, y53⟩ := cell2 y5) | skip) ; have F5 := Lib.hid F5 ; have h5 := Lib.hid h5 ; clear hb5)
      | (go_at_call_of 62 (Value.agg #[.int .i64 d0, .int .i64 d1, .int .i64 d2]) ; refine (Words.refHead _ d0 d1 d2 hd0 hd1 hd2).mono ?_ ; rintro e w5 ⟨rfl, hb5⟩ ; have F5 : Fr3 37 (w.heap.size + 1 + 1 + 1) w (.slice A D.length cap) (.int .i64 cnt) (.int .i64 2) (.slice none 0 0) (.int .i64 0) (.int .i64 0) w5 := (by first | exact F4.out.next hb5 | exact (F4.out.next (al _ _)).next hb5) ; have h5 : RefAt B (.slice A D.length cap) D w5 := (by first | exact h4.out.below hb5 | exact (h4.out.below (al _ _)).below hb5) ; have G5 : Heads w a0 a1 a2 d0 d1 d2 w5 := (by first | exact G4.out.next hb5 | exact (G4.out.next (al _ _)).next hb5) ; have S5 := Heads.S F5 G5 ; have G5 := Lib.hid G5 ; have l5 := lt_of_heap F5.res ; have n5a : ¬ w5.heap.size = w.heap.size := (by omega) ; have n5b : ¬ w.heap.size = w5.heap.size := (by omega) ; have n5c : ¬ w5.heap.size = w.heap.size + 1 := (by omega) ; have n5d : ¬ w.heap.size + 1 = w5.heap.size := (by omega) ; have n5e : ¬ w5.heap.size = w.heap.size + 1 + 1 := (by omega) ; have n5f : ¬ w.heap.size + 1 + 1 = w5.heap.size := (by omega) ; (first | (have y5 : w5.heap[w3.heap.size]? = some (.cells #[.slice none 0 0, .int .i64 0] 35 (0, 0)) := (hb5.block _ (by simp)).trans (new2 (w3.drew) (.slice none 0 0) (.int .i64 0) 35) ; have j5 := lt_of_heap y5 ; obtain ⟨y50, y51, y52, y53⟩ := cell2 y5) | (have y5 := (hb5.block _ j4).trans y4 ; have j5 := lt_of_heap y5 ; obtain ⟨y50, y51, y52, y53⟩ := cell2 y5) | skip) ; have F5 := Lib.hid F5 ; have h5 := Lib.hid h5 ; clear hb5)
      | (go_at_call 61 ; refine (RefX.cas _ D _ B (by first | exact h6.out | exact h6.out.below (al _ _)) (by first | exact Nat.le_trans hB F6.out.bel.size | exact Nat.le_trans hB ((F6.out.next (al _ _)).bel.size)) cnt 2 (Bits.head a0 a1 a2) (Bits.head d0 d1 d2)).mono ?_ ; rintro e w7 ⟨s', rfl, h7⟩ ; obtain ⟨A6, cap6, hs6, hcap6⟩ := own_any h7.ref.own ; rw [hlen] at hs6 ; subst hs6 ; have F7 : Fr3 37 (w.heap.size + 1 + 1 + 1) w (.slice A D.length cap) (.int .i64 cnt) (.int .i64 2) (.slice none 0 0) (.int .i64 0) (.int .i64 0) w7 := (by first | exact F6.out.next h7.bel | exact (F6.out.next (al _ _)).next h7.bel) ; have G7 : Heads w a0 a1 a2 d0 d1 d2 w7 := (by first | exact G6.out.next h7.bel | exact (G6.out.next (al _ _)).next h7.bel) ; have S5 := Heads.S F7 G7 ; have G7 := Lib.hid G7 ; have l7 := lt_of_heap F7.res ; have n7a : ¬ w7.heap.size = w.heap.size := (by omega) ; have n7b : ¬ w.heap.size = w7.heap.size := (by omega) ; have n7c : ¬ w7.heap.size = w.heap.size + 1 := (by omega) ; have n7d : ¬ w.heap.size + 1 = w7.heap.size := (by omega) ; have n7e : ¬ w7.heap.size = w.heap.size + 1 + 1 := (by omega) ; have n7f : ¬ w.heap.size + 1 + 1 = w7.heap.size := (by omega) ; (first | (have y7 : w7.heap[w6.heap.size]? = some (.cells #[.slice none 0 0, .int .i64 0] 35 (0, 0)) := (h7.bel.block _ (by simp)).trans (new2 (w6) (.slice none 0 0) (.int .i64 0) 35) ; have j7 := lt_of_heap y7 ; obtain ⟨y70, y71, y72, y73⟩ := cell2 y7) | (have y7 := (h7.bel.block _ j6).trans y6 ; have j7 := lt_of_heap y7 ; obtain ⟨y70, y71, y72, y73⟩ := cell2 y7) | skip) ; have F7 := Lib.hid F7 ; have h7 := Lib.hid h7))
  all_goals
    have hn : Value.slice A6 D.length cap6 = .slice A D.length cap ∨ ∀ k, (Value.slice A6 D.length cap6).ownBlock = some k → w.heap.size ≤ k := h7.out.new.imp id (fun e k hk => Nat.le_trans (by first | omega | (simp; omega)) (e k hk))
    rw [cnt_in hin hc]
    generalize hcn : cnt + 1 = cnt1 at *
    first
      | (have T := tailB H.out F7.out h7.out (by first | omega | (simp; omega)) (show w7.heap[w6.heap.size]? = _ from y7) (by omega) (by first | omega | (simp; done) | (simp; omega)) (.slice A6 D.length cap6) (.int .i64 cnt1) ; generalize ((w7.setCell ⟨w6.heap.size, 0, none⟩ (.slice A6 D.length cap6)).setCell ⟨w6.heap.size, 1, none⟩ (.int .i64 cnt1)) = wt at T ⊢)
      | (have T := tailB H.out F7.out h7.out (by first | omega | (simp; omega)) (show w7.heap[w5.heap.size]? = _ from y7) (by omega) (by first | omega | (simp; done) | (simp; omega)) (.slice A6 D.length cap6) (.int .i64 cnt1) ; generalize ((w7.setCell ⟨w5.heap.size, 0, none⟩ (.slice A6 D.length cap6)).setCell ⟨w5.heap.size, 1, none⟩ (.int .i64 cnt1)) = wt at T ⊢)
      | (have T := tailB H.out F7.out h7.out (by first | omega | (simp; omega)) (show w7.heap[w3.heap.size]? = _ from y7) (by omega) (by first | omega | (simp; done) | (simp; omega)) (.slice A6 D.length cap6) (.int .i64 cnt1) ; generalize ((w7.setCell ⟨w3.heap.size, 0, none⟩ (.slice A6 D.length cap6)).setCell ⟨w3.heap.size, 1, none⟩ (.int .i64 cnt1)) = wt at T ⊢)
      | (have T := tailA H.out F7.out h7.out l6 (.slice A6 D.length cap6) (.int .i64 cnt1) ; generalize (w7.alloc (.cells #[(.slice A6 D.length cap6), .int .i64 cnt1] 35)) = wt at T ⊢)
    obtain ⟨e0, e1, e2, e3⟩ := cell2 T.mid
    obtain ⟨⟨b0, b1, b2⟩, _, _, _⟩ := cell3 T.fr.arg
    obtain ⟨⟨s0, s1, s2⟩, p0, p1, p2⟩ := cell3 T.fr.res
    have hsz := T.fr.bel.size
    have hszr := lt_of_heap T.fr.res
    have T := Lib.hid T
    have fin : ∀ w', RefNext B (.slice A D.length cap) (.slice A6 D.length cap6) (casAt D 2 (Bits.head a0 a1 a2) (Bits.head d0 d1 d2)) w w' → RPub B (.slice A D.length cap) D cnt (Bits.head a0 a1 a2) (Bits.head d0 d1 d2) w (.returned (.tuple #[.agg #[.slice A6 D.length cap6, .int .i64 cnt1, .int .i64 2], .bool (casB D 2 (Bits.head a0 a1 a2))])) w' := fun w' hh => ⟨_, by rw [hcn], hh⟩
    have fin := Lib.hid fin
    go_wp2
    have Z := T.out.fin (Below.refl _ _) hn (.slice A6 D.length cap6) (.int .i64 cnt1) (.int .i64 2)
    obtain ⟨⟨z0, z1, z2⟩, _⟩ := cell3 (T.out.fr.put (.slice A6 D.length cap6) (.int .i64 cnt1) (.int .i64 2)).res
    refine bodyPost_ret (v := .tuple #[.agg #[.slice A6 D.length cap6, .int .i64 cnt1, .int .i64 2], .bool (casB D 2 (Bits.head a0 a1 a2))]) ?_ rfl (fin.out _ Z)
    generalize (((wt.setCell ⟨w.heap.size + 1 + 1 + 1, 0, none⟩ (.slice A6 D.length cap6)).setCell ⟨w.heap.size + 1 + 1 + 1, 1, none⟩ (.int .i64 cnt1)).setCell ⟨w.heap.size + 1 + 1 + 1, 2, none⟩ (.int .i64 2)) = wz at z0 z1 z2 ⊢
    simp [results, Try.results46, go_sem, z0, z1, z2]

end Go.Proofs.Ytllibgjajlgnbab.RingRef
