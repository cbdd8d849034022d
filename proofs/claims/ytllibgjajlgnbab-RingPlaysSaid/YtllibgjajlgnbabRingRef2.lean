/- The reference's log: Set, Publish. Laid by genringref2.py. -/
import Derived.Test.YtllibgjajlgnbabRingRef
namespace Go.Proofs.Ytllibgjajlgnbab.RingRef
open Go Go.RowKit Go.Proofs.Ytllibgjajlgnbab.Only Go.Proofs.Ytllibgjajlgnbab.Mem Go.Proofs.Ytllibgjajlgnbab.New Go.Proofs.Ytllibgjajlgnbab.Ref Go.Proofs.Ytllibgjajlgnbab.Ring
set_option linter.unusedVariables false
set_option linter.unusedSimpArgs false

theorem casAt_length (D : List Int) (a o x : Int) : (casAt D a o x).length = D.length := by
  unfold casAt; split
  · exact setAt_length _ _ _
  · rfl

/-- What Set leaves. -/
def RPut (B : Nat) (s : Value) (D : List Int) (cnt row k was what : Int) (w : World) (e : Ending) (w' : World) : Prop :=
  ∃ s', e = .returned (.tuple #[.agg #[s', .int .i64 (cnt + asks k), .int .i64 2], .bool (setB D row k was)]) ∧ RefNext B s s' (setC D row k was what) w w'

set_option maxHeartbeats 8000000 in
set_option maxRecDepth 100000 in
theorem set (s : Value) (D : List Int) (w : World) (B : Nat) (h : RefAt B s D w) (hl : D.length = 35) (hB : B ≤ w.heap.size) (cnt : Int) (hc : 0 ≤ cnt ∧ cnt < 4611686018427387904) (row k was what : Int) (hrow : row = 0 ∨ row = 1) (hk : -9223372036854775808 ≤ k ∧ k ≤ 9223372036854775807) (hw : 0 ≤ what ∧ what ≤ 1073741824) :
    Calls Try.prog 49 #[.agg #[s, .int .i64 cnt, .int .i64 2], .int .i64 row, .int .i64 k, .int .u64 was, .int .i64 what] w (RPut B s D cnt row k was what w) := by
  obtain ⟨A, cap, rfl, hcap⟩ := own_any h.own
  have F := Lib.hid (Fr3.start 37 w (.slice A D.length cap) (.int .i64 cnt) (.int .i64 2) (.slice none 0 0) (.int .i64 0) (.int .i64 0))
  have H := Lib.hid h
  replace hl := Lib.hid hl
  have hw2 := h.below F.out.bel
  clear h
  go_enter Try.func49, Try.ntmps49
  go_wp2_with fail
  refine (thr k _).mono ?_
  rintro e w3 ⟨rfl, hb3⟩
  have F3 := F.out.next hb3
  have h3 := hw2.below hb3
  obtain ⟨⟨a0, a1, a2⟩, _, _, _⟩ := cell3 F3.arg
  obtain ⟨⟨r0, r1, r2⟩, q0, q1, q2⟩ := cell3 F3.res
  have F3 := Lib.hid F3
  have h3 := Lib.hid h3
  clear F hb3 hw2
  cases ho : okN k with
  | false =>
    go_wp2
    have F4 := F3.out.put (.slice A D.length cap) (.int .i64 cnt) (.int .i64 2)
    obtain ⟨hz, _⟩ := cell3 F4.res
    refine bodyPost_ret (v := .tuple #[.agg #[.slice A D.length cap, .int .i64 cnt, .int .i64 2], .bool false]) ?_ rfl ⟨_, by simp [setB, asks, ho], ?_, .inl rfl, F4.bel⟩
    · generalize (((w3.setCell ⟨w.heap.size + 1, 0, none⟩ (.slice A D.length cap)).setCell ⟨w.heap.size + 1, 1, none⟩ (.int .i64 cnt)).setCell ⟨w.heap.size + 1, 2, none⟩ (.int .i64 2)) = wz at hz ⊢
      simp [results, Try.results49, go_sem, hz]
    · have q : setC D row k was what = D := by simp [setC, ho]
      rw [q]; exact H.out.below F4.bel
  | true =>
    have hin := rin hl.out row k hrow
    have hr3 := lt_of_heap F3.out.res
    have F4 := Lib.hid F3.out.drew
    have h4 := Lib.hid (RefAt.drew h3.out)
    have n3a : ¬ w3.heap.size = w.heap.size := by omega
    have n3b : ¬ w.heap.size = w3.heap.size := by omega
    have hlen := casAt_length D (rc row k) was (wordOf k what)
    go_wp2_with fail
    go_region_held3 (fun w' => w'.cell? ⟨w.heap.size, 0, none⟩ = some (.slice A D.length cap) ∧ w'.cell? ⟨w.heap.size, 1, none⟩ = some (.int .i64 cnt) ∧ w'.cell? ⟨w.heap.size, 2, none⟩ = some (.int .i64 2))
      (first | go_keep | exact S5)
      (first
        | (go_at_call 64 ; refine (cell A D.length cap cnt row k hrow ho _).mono ?_ ; rintro e w5 ⟨rfl, hb5⟩ ; have F5 : Fr3 37 (w.heap.size + 1) w (.slice A D.length cap) (.int .i64 cnt) (.int .i64 2) (.slice none 0 0) (.int .i64 0) (.int .i64 0) w5 := (by first | exact F4.out.next hb5 | exact (F4.out.next (al _ _)).next hb5) ; have h5 : RefAt B (.slice A D.length cap) D w5 := (by first | exact h4.out.below hb5 | exact (h4.out.below (al _ _)).below hb5) ; have S5 := (cell3 F5.arg).1 ; have l5 := lt_of_heap F5.res ; have n5a : ¬ w5.heap.size = w.heap.size := (by omega) ; have n5b : ¬ w.heap.size = w5.heap.size := (by omega) ; (first | (have y5 : w5.heap[w3.heap.size]? = some (.cells #[.slice none 0 0, .int .i64 0] 35 (0, 0)) := (hb5.block _ (by simp)).trans (new2 (w3.drew) (.slice none 0 0) (.int .i64 0) 35) ; have j5 := lt_of_heap y5 ; obtain ⟨y50, y51, y52, y53⟩ := cell2 y5) | (have y5 := (hb5.block _ j4).trans y4 ; have j5 := lt_of_heap y5 ; obtain ⟨y50, y51, y52, y53⟩ := cell2 y5) | skip) ; have F5 := Lib.hid F5 ; have h5 := Lib.hid h5 ; clear hb5)
        | (go_at_call 65 ; refine (wordf k what ho hw _).mono ?_ ; rintro e w7 ⟨rfl, hw7⟩ ; subst hw7)
        | (go_at_call 61 ; refine (RefX.cas _ D _ B (by first | exact h5.out | exact h5.out.below (al _ _)) (by first | exact Nat.le_trans hB F5.out.bel.size | exact Nat.le_trans hB ((F5.out.next (al _ _)).bel.size)) cnt (rc row k) was (wordOf k what)).mono ?_ ; rintro e w6 ⟨s', rfl, h6⟩ ; obtain ⟨A6, cap6, hs6, hcap6⟩ := own_any h6.ref.own ; rw [hlen] at hs6 ; subst hs6 ; have F6 : Fr3 37 (w.heap.size + 1) w (.slice A D.length cap) (.int .i64 cnt) (.int .i64 2) (.slice none 0 0) (.int .i64 0) (.int .i64 0) w6 := (by first | exact F5.out.next h6.bel | exact (F5.out.next (al _ _)).next h6.bel) ; have S5 := (cell3 F6.arg).1 ; have l6 := lt_of_heap F6.res ; have n6a : ¬ w6.heap.size = w.heap.size := (by omega) ; have n6b : ¬ w.heap.size = w6.heap.size := (by omega) ; (first | (have y6 : w6.heap[w5.heap.size]? = some (.cells #[.slice none 0 0, .int .i64 0] 35 (0, 0)) := (h6.bel.block _ (by simp)).trans (new2 (w5) (.slice none 0 0) (.int .i64 0) 35) ; have j6 := lt_of_heap y6 ; obtain ⟨y60, y61, y62, y63⟩ := cell2 y6) | (have y6 := (h6.bel.block _ j5).trans y5 ; have j6 := lt_of_heap y6 ; obtain ⟨y60, y61, y62, y63⟩ := cell2 y6) | skip) ; have F6 := Lib.hid F6 ; have h6 := Lib.hid h6))
    all_goals
      have hn : Value.slice A6 D.length cap6 = .slice A D.length cap ∨ ∀ k, (Value.slice A6 D.length cap6).ownBlock = some k → w.heap.size ≤ k := h6.out.new.imp id (fun e k hk => Nat.le_trans (by first | omega | (simp; omega)) (e k hk))
      rw [cnt_in hin hc]
      generalize hcn : cnt + 1 = cnt1 at *
      first
        | (have T := tailB H.out F6.out h6.out (by first | omega | (simp; omega)) (show w6.heap[w5.heap.size]? = _ from y6) (by omega) (by first | omega | (simp; done) | (simp; omega)) (.slice A6 D.length cap6) (.int .i64 cnt1) ; generalize ((w6.setCell ⟨w5.heap.size, 0, none⟩ (.slice A6 D.length cap6)).setCell ⟨w5.heap.size, 1, none⟩ (.int .i64 cnt1)) = wt at T ⊢)
        | (have T := tailB H.out F6.out h6.out (by first | omega | (simp; omega)) (show w6.heap[w3.heap.size]? = _ from y6) (by omega) (by first | omega | (simp; done) | (simp; omega)) (.slice A6 D.length cap6) (.int .i64 cnt1) ; generalize ((w6.setCell ⟨w3.heap.size, 0, none⟩ (.slice A6 D.length cap6)).setCell ⟨w3.heap.size, 1, none⟩ (.int .i64 cnt1)) = wt at T ⊢)
        | (have T := tailA H.out F6.out h6.out l5 (.slice A6 D.length cap6) (.int .i64 cnt1) ; generalize (w6.alloc (.cells #[(.slice A6 D.length cap6), .int .i64 cnt1] 35)) = wt at T ⊢)
      obtain ⟨e0, e1, e2, e3⟩ := cell2 T.mid
      obtain ⟨⟨b0, b1, b2⟩, _, _, _⟩ := cell3 T.fr.arg
      obtain ⟨⟨s0, s1, s2⟩, p0, p1, p2⟩ := cell3 T.fr.res
      have hsz := T.fr.bel.size
      have hszr := lt_of_heap T.fr.res
      have T := Lib.hid T
      have eb : setB D row k was = casB D (rc row k) was := by simp [setB, ho]
      have ec : setC D row k was what = casAt D (rc row k) was (wordOf k what) := by simp [setC, ho]
      have ek : cnt + asks k = cnt1 := by simp [asks, ho, hcn]
      have fin : ∀ w', RefNext B (.slice A D.length cap) (.slice A6 D.length cap6) (casAt D (rc row k) was (wordOf k what)) w w' → RPut B (.slice A D.length cap) D cnt row k was what w (.returned (.tuple #[.agg #[.slice A6 D.length cap6, .int .i64 cnt1, .int .i64 2], .bool (casB D (rc row k) was)])) w' := fun w' hh => ⟨_, by rw [ek, eb], by rw [ec]; exact hh⟩
      clear eb ec ek
      have fin := Lib.hid fin
      go_wp2
      have Z := T.out.fin (Below.refl _ _) hn (.slice A6 D.length cap6) (.int .i64 cnt1) (.int .i64 2)
      obtain ⟨⟨z0, z1, z2⟩, _⟩ := cell3 (T.out.fr.put (.slice A6 D.length cap6) (.int .i64 cnt1) (.int .i64 2)).res
      refine bodyPost_ret (v := .tuple #[.agg #[.slice A6 D.length cap6, .int .i64 cnt1, .int .i64 2], .bool (casB D (rc row k) was)]) ?_ rfl (fin.out _ Z)
      generalize (((wt.setCell ⟨w.heap.size + 1, 0, none⟩ (.slice A6 D.length cap6)).setCell ⟨w.heap.size + 1, 1, none⟩ (.int .i64 cnt1)).setCell ⟨w.heap.size + 1, 2, none⟩ (.int .i64 2)) = wz at z0 z1 z2 ⊢
      simp [results, Try.results49, go_sem, z0, z1, z2]

end Go.Proofs.Ytllibgjajlgnbab.RingRef
