/- The reference's log: what each of its functions does to a log whose cells are known. -/
import Derived.Test.YtllibgjajlgnbabRefX
import Derived.Test.YtllibgjajlgnbabRingPub
import Derived.IntWalk
namespace Go.Proofs.Ytllibgjajlgnbab.RingRef
open Go Go.RowKit Go.Proofs.Ytllibgjajlgnbab.Only Go.Proofs.Ytllibgjajlgnbab.Mem Go.Proofs.Ytllibgjajlgnbab.New Go.Proofs.Ytllibgjajlgnbab.Ref Go.Proofs.Ytllibgjajlgnbab.Ring
set_option linter.unusedVariables false
set_option linter.unusedSimpArgs false

theorem cell3 {w : World} {k : Nat} {c0 c1 c2 : Value} {T : TypeId} (h : w.heap[k]? = some (.cells #[c0, c1, c2] T (0, 0))) :
    (w.cell? ⟨k, 0, none⟩ = some c0 ∧ w.cell? ⟨k, 1, none⟩ = some c1 ∧ w.cell? ⟨k, 2, none⟩ = some c2) ∧ w.frozen? ⟨k, 0, none⟩ = false ∧ w.frozen? ⟨k, 1, none⟩ = false ∧ w.frozen? ⟨k, 2, none⟩ = false := by
  simp [World.cell?, World.frozen?, h]
theorem new3 (w : World) (c0 c1 c2 : Value) (T : TypeId) : (w.alloc (.cells #[c0, c1, c2] T)).heap[w.heap.size]? = some (.cells #[c0, c1, c2] T (0, 0)) := heap_alloc_new w _
theorem put3 {w : World} {k : Nat} {c0 c1 c2 : Value} {T : TypeId} (h : w.heap[k]? = some (.cells #[c0, c1, c2] T (0, 0))) (u0 u1 u2 : Value) :
    (((w.setCell ⟨k, 0, none⟩ u0).setCell ⟨k, 1, none⟩ u1).setCell ⟨k, 2, none⟩ u2).heap[k]? = some (.cells #[u0, u1, u2] T (0, 0)) := by
  simp [World.setCell, Array.getElem?_modify, h]

theorem al (w : World) (o : Obj) : Below w.heap.size w (w.alloc o) := (Below.refl _ _).alloc (Nat.le_refl _) _

set_option maxRecDepth 100000 in
theorem thr (k : Int) (w : World) : Calls Try.prog 63 #[.int .i64 k] w fun e w' => e = .returned (.bool (okN k)) ∧ Below w.heap.size w w' := by
  by_cases h0 : 1 ≤ k
  · have b0 : decide (1 ≤ k) = true := by simpa using h0
    have e : okN k = decide (k ≤ 2147483647) := by unfold okN; simp [h0]
    rw [e]
    go_enter Try.func63, Try.ntmps63
    go_wp2
    go_ret
    exact ⟨rfl, Below.refl _ _⟩
  · have b0 : decide (1 ≤ k) = false := by simpa using h0
    have e : okN k = false := by unfold okN; simp; omega
    rw [e]
    go_enter Try.func63, Try.ntmps63
    go_wp2
    go_ret
    exact ⟨rfl, Below.refl _ _⟩

set_option maxRecDepth 100000 in
theorem cell (A : Option Addr) (m cap : Nat) (cnt row k : Int) (hrow : row = 0 ∨ row = 1) (ho : okN k = true) (w : World) :
    Calls Try.prog 64 #[.agg #[.slice A m cap, .int .i64 cnt, .int .i64 2], .int .i64 row, .int .i64 k] w fun e w' => e = .returned (.int .i64 (rc row k)) ∧ Below w.heap.size w w' := by
  have ho : 1 ≤ k ∧ k ≤ 2147483647 := by simpa [okN] using ho
  have em : k.tmod 16 = k % 16 := Int.tmod_eq_emod_of_nonneg (by omega)
  go_enter Try.func64, Try.ntmps64
  go_wp2
  go_ret
  refine ⟨?_, (Below.refl _ _).alloc (Nat.le_refl _) _⟩
  rcases hrow with rfl | rfl <;> simp [rc, em] <;> omega

set_option maxRecDepth 100000 in
theorem wordf (k what : Int) (ho : okN k = true) (hw : 0 ≤ what ∧ what ≤ 1073741824) (w : World) :
    Calls Try.prog 65 #[.int .i64 k, .int .i64 what] w fun e w' => e = .returned (.int .u64 (wordOf k what)) ∧ w = w' := by
  have ho : 1 ≤ k ∧ k ≤ 2147483647 := by simpa [okN] using ho
  go_enter Try.func65, Try.ntmps65
  go_wp2
  go_ret
  refine ⟨?_, rfl⟩
  simp [wordOf, Bits.wrap_u64]

theorem cnt_in {D : List Int} {a cnt : Int} (h : inR D a = true) (hc : 0 ≤ cnt ∧ cnt < 4611686018427387904) : RefX.cntN D a cnt = cnt + 1 := by
  unfold RefX.cntN
  rw [if_pos h]
  exact IntWalk.wrap64_in _ (by omega)
theorem rin {D : List Int} (hl : D.length = 35) (row k : Int) (hrow : row = 0 ∨ row = 1) : Mem.inR D (rc row k) = true := by
  have := rc_range row k hrow
  rw [inR_true]; omega

/-- What Look leaves. -/
def RLooked (B : Nat) (s : Value) (D : List Int) (cnt row k : Int) (w : World) (e : Ending) (w' : World) : Prop :=
  ∃ s', e = .returned (.tuple #[.agg #[s', .int .i64 (cnt + asks k), .int .i64 2], .int .i64 (lookA D row k), .int .u64 (lookW D row k), .bool (lookB D row k)]) ∧ RefNext B s s' D w w'

/-- The two blocks of a call: its argument, its result. -/
structure Fr3 (T : TypeId) (q : Nat) (w0 : World) (x0 x1 x2 y0 y1 y2 : Value) (w : World) : Prop where
  arg : w.heap[w0.heap.size]? = some (.cells #[x0, x1, x2] T (0, 0))
  res : w.heap[q]? = some (.cells #[y0, y1, y2] T (0, 0))
  bel : Below w0.heap.size w0 w
  rpos : w0.heap.size < q
theorem Fr3.start (T : TypeId) (w0 : World) (x0 x1 x2 y0 y1 y2 : Value) : Fr3 T (w0.heap.size + 1) w0 x0 x1 x2 y0 y1 y2 ((w0.alloc (.cells #[x0, x1, x2] T)).alloc (.cells #[y0, y1, y2] T)) := by
  refine ⟨?_, ?_, ((Below.refl _ _).alloc (Nat.le_refl _) _).alloc (by simp) _, by omega⟩
  · rw [heap_alloc_old _ _ (by simp)]; exact new3 _ _ _ _ _
  · have := new3 (w0.alloc (.cells #[x0, x1, x2] T)) y0 y1 y2 T
    simpa using this
theorem Fr3.next {T : TypeId} {q : Nat} {w0 w w' : World} {x0 x1 x2 y0 y1 y2 : Value} (h : Fr3 T q w0 x0 x1 x2 y0 y1 y2 w) (hb : Below w.heap.size w w') : Fr3 T q w0 x0 x1 x2 y0 y1 y2 w' :=
  ⟨(hb.block _ (lt_of_heap h.arg)).trans h.arg, (hb.block _ (lt_of_heap h.res)).trans h.res, h.bel.trans (hb.mono h.bel.size), h.rpos⟩
theorem Fr3.drew {T : TypeId} {q : Nat} {w0 w : World} {x0 x1 x2 y0 y1 y2 : Value} (h : Fr3 T q w0 x0 x1 x2 y0 y1 y2 w) : Fr3 T q w0 x0 x1 x2 y0 y1 y2 w.drew := ⟨h.arg, h.res, h.bel.drew, h.rpos⟩
theorem Fr3.put {T : TypeId} {q : Nat} {w0 w : World} {x0 x1 x2 y0 y1 y2 : Value} (h : Fr3 T q w0 x0 x1 x2 y0 y1 y2 w) (u0 u1 u2 : Value) : Fr3 T q w0 x0 x1 x2 u0 u1 u2 (((w.setCell ⟨q, 0, none⟩ u0).setCell ⟨q, 1, none⟩ u1).setCell ⟨q, 2, none⟩ u2) := by
  have hr := h.rpos
  refine ⟨?_, put3 h.res u0 u1 u2, ((h.bel.setCell (by simp; omega) _).setCell (by simp; omega) _).setCell (by simp; omega) _, hr⟩
  rw [Below.heap_setCell _ _ _ _ (by simp; omega), Below.heap_setCell _ _ _ _ (by simp; omega), Below.heap_setCell _ _ _ _ (by simp; omega)]; exact h.arg

/-- Behind a call of the reference whose cells were put into block j. -/
structure TailAt (T : TypeId) (q B j : Nat) (w0 w6 : World) (s' : Value) (D' : List Int) (x0 x1 x2 y0 y1 y2 u0 u1 : Value) (wt : World) : Prop where
  mid : wt.heap[j]? = some (.cells #[u0, u1] 35 (0, 0))
  fr : Fr3 T q w0 x0 x1 x2 y0 y1 y2 wt
  ref : RefAt B s' D' wt
  oth : ∀ i, i ≠ j → i < w6.heap.size → wt.heap[i]? = w6.heap[i]?
  far : ∀ k, s'.ownBlock = some k → k < w0.heap.size ∨ q < k
theorem far_of {B q : Nat} {s s' : Value} {D D' : List Int} {w0 w5 w6 : World} (H : RefAt B s D w0) (h6 : RefNext B s s' D' w5 w6) (h5 : q < w5.heap.size) : ∀ k, s'.ownBlock = some k → k < w0.heap.size ∨ q < k := by
  intro k hk
  rcases h6.new with e | e
  · rw [e] at hk
    rcases H.own.2 with ⟨h2, _⟩ | ⟨g, cap, cur, hg, hb, hgg, _⟩
    · rw [h2] at hk; cases hk
    · rw [hg] at hk; cases hk; exact .inl (lt_of_heap hgg)
  · have := e k hk; omega
theorem tailA {T : TypeId} {q B : Nat} {s s' : Value} {D D' : List Int} {w0 w5 w6 : World} {x0 x1 x2 y0 y1 y2 : Value} (H : RefAt B s D w0) (F : Fr3 T q w0 x0 x1 x2 y0 y1 y2 w6) (h6 : RefNext B s s' D' w5 w6) (h5 : q < w5.heap.size) (u0 u1 : Value) :
    TailAt T q B w6.heap.size w0 w6 s' D' x0 x1 x2 y0 y1 y2 u0 u1 (w6.alloc (.cells #[u0, u1] 35)) :=
  ⟨new2 _ _ _ _, F.next (al _ _), h6.ref.below (al _ _), fun i _ hi => heap_alloc_old _ _ hi, far_of H h6 h5⟩
theorem tailB {T : TypeId} {q B j : Nat} {s s' : Value} {D D' : List Int} {w0 w5 w6 : World} {x0 x1 x2 y0 y1 y2 c0 c1 : Value} (H : RefAt B s D w0) (F : Fr3 T q w0 x0 x1 x2 y0 y1 y2 w6) (h6 : RefNext B s s' D' w5 w6) (h5 : q < w5.heap.size) (hj : w6.heap[j]? = some (.cells #[c0, c1] 35 (0, 0))) (hj0 : q < j) (hj1 : j < w5.heap.size) (u0 u1 : Value) :
    TailAt T q B j w0 w6 s' D' x0 x1 x2 y0 y1 y2 u0 u1 ((w6.setCell ⟨j, 0, none⟩ u0).setCell ⟨j, 1, none⟩ u1) := by
  have ho : ∀ i, i ≠ j → ((w6.setCell ⟨j, 0, none⟩ u0).setCell ⟨j, 1, none⟩ u1).heap[i]? = w6.heap[i]? := fun i hi => by
    rw [Below.heap_setCell _ _ _ _ hi, Below.heap_setCell _ _ _ _ hi]
  have hr := F.rpos
  refine ⟨put2 hj u0 u1, ⟨(ho _ (by omega)).trans F.arg, (ho _ (by omega)).trans F.res, (F.bel.setCell (by simp; omega) _).setCell (by simp; omega) _, F.rpos⟩, ?_, fun i hi _ => ho i hi, far_of H h6 h5⟩
  have o : Only (fun k => k = j) w6 ((w6.setCell ⟨j, 0, none⟩ u0).setCell ⟨j, 1, none⟩ u1) := ((refl (fun k => k = j) w6).setCell (p := ⟨j, 0, none⟩) (fun _ => rfl) _).setCell (p := ⟨j, 1, none⟩) (fun _ => rfl) _
  refine h6.ref.keep o (fun k hk e => ?_)
  have e : k = j := e
  rcases h6.new with e2 | e2
  · rw [e2] at hk
    rcases H.own.2 with ⟨h2, _⟩ | ⟨g, cap, cur, hg, hb, hgg, _⟩
    · rw [h2] at hk; cases hk
    · rw [hg] at hk
      have e3 : g = k := by simpa [Value.ownBlock] using hk
      have := lt_of_heap hgg; omega
  · have := e2 k hk; omega
theorem RefNext.below {B : Nat} {s s' : Value} {D : List Int} {w w1 w2 : World} (h : RefNext B s s' D w w1) (hb : Below w1.heap.size w1 w2) : RefNext B s s' D w w2 := ⟨h.ref.below hb, h.new, h.bel.trans (hb.mono h.bel.size)⟩
/-- .. and its result written. -/
theorem TailAt.fin {T : TypeId} {q B j : Nat} {w0 w6 wt wu : World} {s s' : Value} {D' : List Int} {x0 x1 x2 y0 y1 y2 u0 u1 : Value} (h : TailAt T q B j w0 w6 s' D' x0 x1 x2 y0 y1 y2 u0 u1 wt) (hu : Below wt.heap.size wt wu) (hn : s' = s ∨ ∀ k, s'.ownBlock = some k → w0.heap.size ≤ k) (z0 z1 z2 : Value) :
    RefNext B s s' D' w0 (((wu.setCell ⟨q, 0, none⟩ z0).setCell ⟨q, 1, none⟩ z1).setCell ⟨q, 2, none⟩ z2) := by
  have F := h.fr.next hu
  have hr := F.rpos
  refine ⟨?_, hn, ((F.bel.setCell (by simp; omega) _).setCell (by simp; omega) _).setCell (by simp; omega) _⟩
  have o : Only (fun k => k = q) wu (((wu.setCell ⟨q, 0, none⟩ z0).setCell ⟨q, 1, none⟩ z1).setCell ⟨q, 2, none⟩ z2) :=
    (((refl (fun k => k = q) wu).setCell (p := ⟨q, 0, none⟩) (fun _ => rfl) _).setCell (p := ⟨q, 1, none⟩) (fun _ => rfl) _).setCell (p := ⟨q, 2, none⟩) (fun _ => rfl) _
  exact (h.ref.below hu).keep o (fun k hk (e : k = q) => by have := h.far k hk; have := F.rpos; omega)

set_option maxHeartbeats 8000000 in
set_option maxRecDepth 100000 in
theorem look (s : Value) (D : List Int) (w : World) (B : Nat) (h : RefAt B s D w) (hl : D.length = 35) (hD : ∀ x ∈ D, 0 ≤ x ∧ x ≤ 18446744073709551615) (hB : B ≤ w.heap.size) (cnt : Int) (hc : 0 ≤ cnt ∧ cnt < 4611686018427387904) (row k : Int) (hrow : row = 0 ∨ row = 1) (hk : -9223372036854775808 ≤ k ∧ k ≤ 9223372036854775807) :
    Calls Try.prog 47 #[.agg #[s, .int .i64 cnt, .int .i64 2], .int .i64 row, .int .i64 k] w (RLooked B s D cnt row k w) := by
  obtain ⟨A, cap, rfl, hcap⟩ := own_any h.own
  have F := Lib.hid (Fr3.start 37 w (.slice A D.length cap) (.int .i64 cnt) (.int .i64 2) (.slice none 0 0) (.int .i64 0) (.int .i64 0))
  have H := Lib.hid h
  replace hl := Lib.hid hl
  have hw2 := h.below F.out.bel
  clear h
  go_enter Try.func47, Try.ntmps47
  go_wp2_with fail
  refine (thr k _).mono ?_
  rintro e w3 ⟨rfl, hb3⟩
  have F3 := F.out.next hb3
  have h3 := hw2.below hb3
  obtain ⟨⟨a0, a1, a2⟩, _, _, _⟩ := cell3 F3.arg
  obtain ⟨⟨r0, r1, r2⟩, q0, q1, q2⟩ := cell3 F3.res
  have F3 := Lib.hid F3
  have h3 := Lib.hid h3
  clear F hb3 hw2
  cases ho : okN k with
  | false =>
    go_wp2
    have F4 := F3.out.put (.slice A D.length cap) (.int .i64 cnt) (.int .i64 2)
    obtain ⟨hz, _⟩ := cell3 F4.res
    refine bodyPost_ret (v := .tuple #[.agg #[.slice A D.length cap, .int .i64 cnt, .int .i64 2], .int .i64 (-1), .int .u64 0, .bool false]) ?_ rfl ⟨_, by simp [lookA, lookW, lookB, asks, ho], H.out.below F4.bel, .inl rfl, F4.bel⟩
    generalize (((w3.setCell ⟨w.heap.size + 1, 0, none⟩ (.slice A D.length cap)).setCell ⟨w.heap.size + 1, 1, none⟩ (.int .i64 cnt)).setCell ⟨w.heap.size + 1, 2, none⟩ (.int .i64 2)) = wz at hz ⊢
    simp [results, Try.results47, go_sem, hz]
  | true =>
    have hin := rin hl.out row k hrow
    have hB3 : B ≤ w3.heap.size := Nat.le_trans hB F3.out.bel.size
    go_wp2_with fail
    go_region_held3 (fun w' => w'.cell? ⟨w.heap.size, 0, none⟩ = some (.slice A D.length cap) ∧ w'.cell? ⟨w.heap.size, 1, none⟩ = some (.int .i64 cnt) ∧ w'.cell? ⟨w.heap.size, 2, none⟩ = some (.int .i64 2))
      (first | go_keep | exact S5)
      (first
        | (go_at_call 64 ; refine (cell A D.length cap cnt row k hrow ho w3.drew).mono ?_ ; rintro e w5 ⟨rfl, hb5⟩ ; have F5 : Fr3 37 (w.heap.size + 1) w (.slice A D.length cap) (.int .i64 cnt) (.int .i64 2) (.slice none 0 0) (.int .i64 0) (.int .i64 0) w5 := F3.out.drew.next hb5 ; have h5 : RefAt B (.slice A D.length cap) D w5 := (RefAt.drew h3.out).below hb5 ; have S5 := (cell3 F5.arg).1 ; have l5 := lt_of_heap F5.arg ; have m5 := lt_of_heap F5.res ; have n5a : ¬ w5.heap.size = w.heap.size := (by omega) ; have n5b : ¬ w.heap.size = w5.heap.size := (by omega) ; have hB5 : B ≤ w5.heap.size := Nat.le_trans hB F5.bel.size ; have F5 := Lib.hid F5 ; have h5 := Lib.hid h5 ; clear hb5)
        | (go_at_call 64 ; refine (cell A D.length cap cnt row k hrow ho (w3.drew.alloc (.cells #[.slice none 0 0, .int .i64 0] 35))).mono ?_ ; rintro e w5 ⟨rfl, hb5⟩ ; have F5 : Fr3 37 (w.heap.size + 1) w (.slice A D.length cap) (.int .i64 cnt) (.int .i64 2) (.slice none 0 0) (.int .i64 0) (.int .i64 0) w5 := (F3.out.drew.next (al _ _)).next hb5 ; have h5 : RefAt B (.slice A D.length cap) D w5 := ((RefAt.drew h3.out).below (al _ _)).below hb5 ; have S5 := (cell3 F5.arg).1 ; have l5 := lt_of_heap F5.arg ; have m5 := lt_of_heap F5.res ; have n5a : ¬ w5.heap.size = w.heap.size := (by omega) ; have n5b : ¬ w.heap.size = w5.heap.size := (by omega) ; have hB5 : B ≤ w5.heap.size := Nat.le_trans hB F5.bel.size ; have F5 := Lib.hid F5 ; have h5 := Lib.hid h5 ; have y5 : w5.heap[w3.heap.size]? = some (.cells #[.slice none 0 0, .int .i64 0] 35 (0, 0)) := (hb5.block _ (by simp)).trans (new2 w3.drew (.slice none 0 0) (.int .i64 0) 35) ; have hs3 := F3.out.bel.size ; have hr3 := lt_of_heap F3.out.res ; have y5l := lt_of_heap y5 ; obtain ⟨y50, y51, y52, y53⟩ := cell2 y5 ; have n3a : ¬ w3.heap.size = w.heap.size := (by omega) ; have n3b : ¬ w.heap.size = w3.heap.size := (by omega) ; clear hb5)
        | (go_at_call 59 ; refine (RefX.load _ D w5 B h5.out hB5 cnt (rc row k)).mono ?_ ; rintro e w6 ⟨s', rfl, h6⟩ ; obtain ⟨A6, cap6, hs6, hcap6⟩ := own_any h6.ref.own ; subst hs6 ; have F6 : Fr3 37 (w.heap.size + 1) w (.slice A D.length cap) (.int .i64 cnt) (.int .i64 2) (.slice none 0 0) (.int .i64 0) (.int .i64 0) w6 := F5.out.next h6.bel ; have S5 := (cell3 F6.arg).1 ; have l6 := lt_of_heap F6.arg ; have m6 := lt_of_heap F6.res ; have n6a : ¬ w6.heap.size = w.heap.size := (by omega) ; have n6b : ¬ w.heap.size = w6.heap.size := (by omega) ; have y6 := (h6.bel.block _ y5l).trans y5 ; obtain ⟨y60, y61, y62, y63⟩ := cell2 y6 ; have F6 := Lib.hid F6 ; have h6 := Lib.hid h6)
        | (go_at_call 59 ; refine (RefX.load _ D w5 B h5.out hB5 cnt (rc row k)).mono ?_ ; rintro e w6 ⟨s', rfl, h6⟩ ; obtain ⟨A6, cap6, hs6, hcap6⟩ := own_any h6.ref.own ; subst hs6 ; have F6 : Fr3 37 (w.heap.size + 1) w (.slice A D.length cap) (.int .i64 cnt) (.int .i64 2) (.slice none 0 0) (.int .i64 0) (.int .i64 0) w6 := F5.out.next h6.bel ; have S5 := (cell3 F6.arg).1 ; have l6 := lt_of_heap F6.arg ; have m6 := lt_of_heap F6.res ; have n6a : ¬ w6.heap.size = w.heap.size := (by omega) ; have n6b : ¬ w.heap.size = w6.heap.size := (by omega) ; have F6 := Lib.hid F6 ; have h6 := Lib.hid h6)
        | (go_at_call 59 ; refine (RefX.load _ D (w5.alloc (.cells #[.slice none 0 0, .int .i64 0] 35)) B (h5.out.below (al _ _)) (Nat.le_trans hB5 (al _ _).size) cnt (rc row k)).mono ?_ ; rintro e w6 ⟨s', rfl, h6⟩ ; obtain ⟨A6, cap6, hs6, hcap6⟩ := own_any h6.ref.own ; subst hs6 ; have F6 : Fr3 37 (w.heap.size + 1) w (.slice A D.length cap) (.int .i64 cnt) (.int .i64 2) (.slice none 0 0) (.int .i64 0) (.int .i64 0) w6 := (F5.out.next (al _ _)).next h6.bel ; have S5 := (cell3 F6.arg).1 ; have l6 := lt_of_heap F6.arg ; have m6 := lt_of_heap F6.res ; have n6a : ¬ w6.heap.size = w.heap.size := (by omega) ; have n6b : ¬ w.heap.size = w6.heap.size := (by omega) ; have x6 := (h6.bel.block _ (by simp)).trans (new2 w5 (.slice none 0 0) (.int .i64 0) 35) ; obtain ⟨x60, x61, x62, x63⟩ := cell2 x6 ; have F6 := Lib.hid F6 ; have h6 := Lib.hid h6))
    all_goals
      have hn : Value.slice A6 D.length cap6 = .slice A D.length cap ∨ ∀ k, (Value.slice A6 D.length cap6).ownBlock = some k → w.heap.size ≤ k := h6.out.new.imp id (fun e k hk => Nat.le_trans (by first | omega | (simp; omega)) (e k hk))
      rw [cnt_in hin hc]
      generalize hcn : cnt + 1 = cnt1 at *
      first
        | (have T := tailB H.out F6.out h6.out (by simp; omega) x6 m5 (by simp) (.slice A6 D.length cap6) (.int .i64 cnt1) ; generalize ((w6.setCell ⟨w5.heap.size, 0, none⟩ (.slice A6 D.length cap6)).setCell ⟨w5.heap.size, 1, none⟩ (.int .i64 cnt1)) = wt at T ⊢)
        | (have T := tailB H.out F6.out h6.out m5 y6 hr3 y5l (.slice A6 D.length cap6) (.int .i64 cnt1) ; generalize ((w6.setCell ⟨w3.heap.size, 0, none⟩ (.slice A6 D.length cap6)).setCell ⟨w3.heap.size, 1, none⟩ (.int .i64 cnt1)) = wt at T ⊢)
        | (have T := tailA H.out F6.out h6.out m5 (.slice A6 D.length cap6) (.int .i64 cnt1) ; generalize (w6.alloc (.cells #[.slice A6 D.length cap6, .int .i64 cnt1] 35)) = wt at T ⊢)
      obtain ⟨e0, e1, e2, e3⟩ := cell2 T.mid
      obtain ⟨⟨b0, b1, b2⟩, _, _, _⟩ := cell3 T.fr.arg
      obtain ⟨⟨s0, s1, s2⟩, p0, p1, p2⟩ := cell3 T.fr.res
      have hsz := T.fr.bel.size
      have hszr := lt_of_heap T.fr.res
      have T := Lib.hid T
      have hx := rdAt_range hD (rc row k)
      have ea : lookA D row k = if rdAt D (rc row k) / 4294967296 = k then rdAt D (rc row k) % 4294967296 - 1 else -1 := by simp [lookA, ho]
      have ew : lookW D row k = rdAt D (rc row k) := by simp [lookW, ho]
      have eb : lookB D row k = (rdAt D (rc row k) / 4294967296 == k) := by simp [lookB, ho]
      have ek : cnt + asks k = cnt1 := by simp [asks, ho, hcn]
      have E := Lib.hid (And.intro ea (And.intro ew (And.intro eb ek)))
      have hok : 1 ≤ k ∧ k ≤ 2147483647 := by simpa [okN] using ho
      have fin : ∀ e w', e = Ending.returned (.tuple #[.agg #[.slice A6 D.length cap6, .int .i64 cnt1, .int .i64 2], .int .i64 (lookA D row k), .int .u64 (lookW D row k), .bool (lookB D row k)]) → RefNext B (.slice A D.length cap) (.slice A6 D.length cap6) D w w' → RLooked B (.slice A D.length cap) D cnt row k w e w' := fun e w' he hh => ⟨_, by rw [ek]; exact he, hh⟩
      rw [ea, ew, eb] at fin
      have fin := Lib.hid fin
      clear ea ew eb ek E
      generalize rdAt D (rc row k) = x at *
      generalize errAt D (rc row k) = bad at *
      go_wp2
      · have q : x / 4294967296 ≠ k := by simpa using (show (x / 4294967296 != k) = true by assumption)
        have Z := RefNext.below (T.out.fin (Below.refl _ _) hn (.slice A6 D.length cap6) (.int .i64 cnt1) (.int .i64 2)) (al _ (.cells #[.slice A6 D.length cap6, .int .i64 cnt1, .int .i64 2] 37))
        obtain ⟨⟨z0, z1, z2⟩, _⟩ := cell3 ((T.out.fr.put (.slice A6 D.length cap6) (.int .i64 cnt1) (.int .i64 2)).next (al _ (.cells #[.slice A6 D.length cap6, .int .i64 cnt1, .int .i64 2] 37))).res
        refine bodyPost_ret (v := .tuple #[.agg #[.slice A6 D.length cap6, .int .i64 cnt1, .int .i64 2], .int .i64 (-1), .int .u64 x, .bool false]) ?_ rfl (fin.out _ _ (by simp [q]) Z)
        generalize ((((wt.setCell ⟨w.heap.size + 1, 0, none⟩ (.slice A6 D.length cap6)).setCell ⟨w.heap.size + 1, 1, none⟩ (.int .i64 cnt1)).setCell ⟨w.heap.size + 1, 2, none⟩ (.int .i64 2)).alloc (.cells #[.slice A6 D.length cap6, .int .i64 cnt1, .int .i64 2] 37)) = wz at z0 z1 z2 ⊢
        simp [results, Try.results47, go_sem, z0, z1, z2]
      · have q : x / 4294967296 = k := by simpa using (show (x / 4294967296 != k) = false by assumption)
        have Z := RefNext.below (T.out.fin (Below.refl _ _) hn (.slice A6 D.length cap6) (.int .i64 cnt1) (.int .i64 2)) (al _ (.cells #[.slice A6 D.length cap6, .int .i64 cnt1, .int .i64 2] 37))
        obtain ⟨⟨z0, z1, z2⟩, _⟩ := cell3 ((T.out.fr.put (.slice A6 D.length cap6) (.int .i64 cnt1) (.int .i64 2)).next (al _ (.cells #[.slice A6 D.length cap6, .int .i64 cnt1, .int .i64 2] 37))).res
        refine bodyPost_ret (v := .tuple #[.agg #[.slice A6 D.length cap6, .int .i64 cnt1, .int .i64 2], .int .i64 (x % 4294967296 - 1), .int .u64 x, .bool true]) ?_ rfl (fin.out _ _ (by simp [q]) Z)
        generalize ((((wt.setCell ⟨w.heap.size + 1, 0, none⟩ (.slice A6 D.length cap6)).setCell ⟨w.heap.size + 1, 1, none⟩ (.int .i64 cnt1)).setCell ⟨w.heap.size + 1, 2, none⟩ (.int .i64 2)).alloc (.cells #[.slice A6 D.length cap6, .int .i64 cnt1, .int .i64 2] 37)) = wz at z0 z1 z2 ⊢
        simp [results, Try.results47, go_sem, z0, z1, z2]
end Go.Proofs.Ytllibgjajlgnbab.RingRef
