/- The reference's log: Head, New. Laid by genringref2.py. -/
import Derived.Test.YtllibgjajlgnbabRingRef3
namespace Go.Proofs.Ytllibgjajlgnbab.RingRef
open Go Go.RowKit Go.Proofs.Ytllibgjajlgnbab.Only Go.Proofs.Ytllibgjajlgnbab.Mem Go.Proofs.Ytllibgjajlgnbab.New Go.Proofs.Ytllibgjajlgnbab.Ref Go.Proofs.Ytllibgjajlgnbab.Ring
set_option linter.unusedVariables false
set_option linter.unusedSimpArgs false

/-- What Head leaves. -/
def RHead (B : Nat) (s : Value) (D : List Int) (cnt : Int) (w : World) (e : Ending) (w' : World) : Prop :=
  ∃ s', e = .returned (.tuple #[.agg #[s', .int .i64 (cnt + 1), .int .i64 2], Words.opened (rdAt D 2)]) ∧ RefNext B s s' D w w'

set_option maxHeartbeats 8000000 in
set_option maxRecDepth 100000 in
theorem head (s : Value) (D : List Int) (w : World) (B : Nat) (h : RefAt B s D w) (hl : D.length = 35) (hD : ∀ x ∈ D, 0 ≤ x ∧ x ≤ 18446744073709551615) (hB : B ≤ w.heap.size) (cnt : Int) (hc : 0 ≤ cnt ∧ cnt < 4611686018427387904) :
    Calls Try.prog 45 #[.agg #[s, .int .i64 cnt, .int .i64 2]] w (RHead B s D cnt w) := by
  obtain ⟨A, cap, rfl, hcap⟩ := own_any h.own
  have F2 := Fr3.start 37 w (.slice A D.length cap) (.int .i64 cnt) (.int .i64 2) (.slice none 0 0) (.int .i64 0) (.int .i64 0)
  have F3 := F2.next (al _ (.cells #[.int .i64 0, .int .i64 0, .int .i64 0] 41))
  have G3 : (((w.alloc (.cells #[.slice A D.length cap, .int .i64 cnt, .int .i64 2] 37)).alloc (.cells #[.slice none 0 0, .int .i64 0, .int .i64 0] 37)).alloc (.cells #[.int .i64 0, .int .i64 0, .int .i64 0] 41)).heap[w.heap.size + 1 + 1]? = some (.cells #[.int .i64 0, .int .i64 0, .int .i64 0] 41 (0, 0)) := by
    have := new3 ((w.alloc (.cells #[.slice A D.length cap, .int .i64 cnt, .int .i64 2] 37)).alloc (.cells #[.slice none 0 0, .int .i64 0, .int .i64 0] 37)) (.int .i64 0) (.int .i64 0) (.int .i64 0) 41
    simpa using this
  have H := Lib.hid h
  replace hl := Lib.hid hl
  have h3 := Lib.hid (h.below F3.bel)
  have F3 := Lib.hid F3
  have G3 := Lib.hid G3
  clear h F2
  go_enter Try.func45, Try.ntmps45
  go_wp2_with fail
  generalize (((w.alloc (.cells #[.slice A D.length cap, .int .i64 cnt, .int .i64 2] 37)).alloc (.cells #[.slice none 0 0, .int .i64 0, .int .i64 0] 37)).alloc (.cells #[.int .i64 0, .int .i64 0, .int .i64 0] 41)) = w3 at *
  obtain ⟨⟨x0, x1, x2⟩, _, _, _⟩ := cell3 F3.out.arg
  obtain ⟨⟨r0, r1, r2⟩, q0, q1, q2⟩ := cell3 F3.out.res
  have hin : inR D 2 = true := by have := hl.out; rw [inR_true]; omega
  have hr2 := lt_of_heap F3.out.res
  have hr3 := lt_of_heap G3.out
  go_wp2_with fail
  refine (RefX.load _ D _ B h3.out (Nat.le_trans hB F3.out.bel.size) cnt 2).mono ?_
  rintro e w6 ⟨s', rfl, h6⟩
  obtain ⟨A6, cap6, hs6, hcap6⟩ := own_any h6.ref.own
  subst hs6
  have F6 := F3.out.next h6.bel
  have G6 := (h6.bel.block _ hr3).trans G3.out
  have hn : Value.slice A6 D.length cap6 = .slice A D.length cap ∨ ∀ k, (Value.slice A6 D.length cap6).ownBlock = some k → w.heap.size ≤ k := h6.new.imp id (fun e k hk => Nat.le_trans (by omega) (e k hk))
  rw [cnt_in hin hc]
  generalize hcn : cnt + 1 = cnt1 at *
  have T := tailA H.out F6 h6 hr2 (.slice A6 D.length cap6) (.int .i64 cnt1)
  have hx := rdAt_range hD 2
  have fin : ∀ w', RefNext B (.slice A D.length cap) (.slice A6 D.length cap6) D w w' → RHead B (.slice A D.length cap) D cnt w (.returned (.tuple #[.agg #[(.slice A6 D.length cap6), .int .i64 cnt1, .int .i64 2], Words.opened (rdAt D 2)])) w' := fun w' hh => ⟨_, by rw [hcn], hh⟩
  have gone : ∀ k, ((.slice A6 D.length cap6) : Value).ownBlock = some k → k < w.heap.size ∨ w.heap.size + 1 + 1 < k := by
    intro k hk
    rcases h6.new with e | e
    · rw [e] at hk
      rcases H.out.own.2 with ⟨h2, _⟩ | ⟨g, cap, cur, hg, hb, hgg, _⟩
      · rw [h2] at hk; cases hk
      · rw [hg] at hk
        have e3 : g = k := by simpa [Value.ownBlock] using hk
        have := lt_of_heap hgg; omega
    · have := e k hk; omega
  have gone := Lib.hid gone
  have fin := Lib.hid fin
  have hsz6 := h6.bel.size
  generalize rdAt D 2 = x at *
  obtain ⟨⟨s0, s1, s2⟩, p0, p1, p2⟩ := cell3 F6.res
  obtain ⟨⟨b0, b1, b2⟩, _, _, _⟩ := cell3 F6.arg
  obtain ⟨⟨g0, g1, g2⟩, k0, k1, k2⟩ := cell3 G6
  have T := Lib.hid T
  have G6 := Lib.hid G6
  have h6 := Lib.hid h6
  clear F6
  go_wp2_with fail
  have hT6 : w.heap.size + 1 + 1 < w6.heap.size := lt_of_heap G6.out
  have GT := (heap_alloc_old w6 (.cells #[(.slice A6 D.length cap6), .int .i64 cnt1] 35) hT6).trans G6.out
  have GT := Lib.hid GT
  generalize (w6.alloc (.cells #[(.slice A6 D.length cap6), .int .i64 cnt1] 35)) = wt at *
  obtain ⟨t0, t1, t2, t3⟩ := cell2 T.out.mid
  obtain ⟨⟨b0, b1, b2⟩, _, _, _⟩ := cell3 T.out.fr.arg
  obtain ⟨⟨s0, s1, s2⟩, p0, p1, p2⟩ := cell3 T.out.fr.res
  obtain ⟨⟨g0, g1, g2⟩, k0, k1, k2⟩ := cell3 GT.out
  have m1 : ¬ w6.heap.size = w.heap.size + 1 := by omega
  have m2 : ¬ w.heap.size + 1 = w6.heap.size := by omega
  have m3 : ¬ w6.heap.size = w.heap.size + 1 + 1 := by omega
  have m4 : ¬ w.heap.size + 1 + 1 = w6.heap.size := by omega
  have m5 : ¬ w.heap.size + 1 + 1 = w.heap.size := by omega
  have m6 : ¬ w.heap.size = w.heap.size + 1 + 1 := by omega
  go_region_held3 (fun w' => w'.cell? ⟨w6.heap.size, 0, none⟩ = some (.slice A6 D.length cap6) ∧ w'.cell? ⟨w6.heap.size, 1, none⟩ = some (.int .i64 cnt1) ∧ w'.cell? ⟨w.heap.size, 2, none⟩ = some (.int .i64 2))
    (first | go_keep | exact S5)
    (first
      | (go_at_call 60 ; refine (Words.refOpen _ x hx).mono ?_ ; rintro e w8 ⟨rfl, hb8⟩ ; have F8 := T.out.fr.drew.next hb8 ; have y8 := (hb8.block _ (lt_of_heap T.out.mid)).trans T.out.mid ; have G8 := (hb8.block _ (lt_of_heap GT.out)).trans GT.out ; obtain ⟨y80, y81, y82, y83⟩ := cell2 y8 ; have S5 := And.intro y80 (And.intro y81 (cell3 F8.arg).1.2.2) ; obtain ⟨⟨v0, v1, v2⟩, v3, v4, v5⟩ := cell3 F8.res ; obtain ⟨⟨u0, u1, u2⟩, u3, u4, u5⟩ := cell3 G8 ; have F8 := Lib.hid F8 ; have G8 := Lib.hid G8 ; have hb8 := Lib.hid hb8 ; unfold Words.opened ; clear y8))
  have hb9 : Below wt.heap.size wt w8 := (Below.refl _ wt).drew.trans hb8.out
  have Z0 := T.out.fin hb9 hn (.slice A6 D.length cap6) (.int .i64 cnt1) (.int .i64 2)
  go_wp2
  have hq : ∀ k, k ≠ w.heap.size + 1 + 1 → k ≠ w.heap.size + 1 → ((((((w8.setCell ⟨w.heap.size + 1, 0, none⟩ (.slice A6 D.length cap6)).setCell ⟨w.heap.size + 1, 1, none⟩ (.int .i64 cnt1)).setCell ⟨w.heap.size + 1, 2, none⟩ (.int .i64 2)).setCell ⟨w.heap.size + 1 + 1, 0, none⟩ (.int .i64 (x / 1099511627776))).setCell ⟨w.heap.size + 1 + 1, 1, none⟩ (.int .i64 (x / 1048576 % 1048576))).setCell ⟨w.heap.size + 1 + 1, 2, none⟩ (.int .i64 (x % 1048576))).heap[k]? = w8.heap[k]? := fun k h1 h2 => by
    rw [Below.heap_setCell _ _ _ _ h1, Below.heap_setCell _ _ _ _ h1, Below.heap_setCell _ _ _ _ h1, Below.heap_setCell _ _ _ _ h2, Below.heap_setCell _ _ _ _ h2, Below.heap_setCell _ _ _ _ h2]
  have hres : ((((((w8.setCell ⟨w.heap.size + 1, 0, none⟩ (.slice A6 D.length cap6)).setCell ⟨w.heap.size + 1, 1, none⟩ (.int .i64 cnt1)).setCell ⟨w.heap.size + 1, 2, none⟩ (.int .i64 2)).setCell ⟨w.heap.size + 1 + 1, 0, none⟩ (.int .i64 (x / 1099511627776))).setCell ⟨w.heap.size + 1 + 1, 1, none⟩ (.int .i64 (x / 1048576 % 1048576))).setCell ⟨w.heap.size + 1 + 1, 2, none⟩ (.int .i64 (x % 1048576))).heap[w.heap.size + 1]? = some (.cells #[(.slice A6 D.length cap6), .int .i64 cnt1, .int .i64 2] 37 (0, 0)) := by
    rw [Below.heap_setCell _ _ _ _ (by simp), Below.heap_setCell _ _ _ _ (by simp), Below.heap_setCell _ _ _ _ (by simp)]
    exact put3 F8.out.res _ _ _
  have hhd : ((((((w8.setCell ⟨w.heap.size + 1, 0, none⟩ (.slice A6 D.length cap6)).setCell ⟨w.heap.size + 1, 1, none⟩ (.int .i64 cnt1)).setCell ⟨w.heap.size + 1, 2, none⟩ (.int .i64 2)).setCell ⟨w.heap.size + 1 + 1, 0, none⟩ (.int .i64 (x / 1099511627776))).setCell ⟨w.heap.size + 1 + 1, 1, none⟩ (.int .i64 (x / 1048576 % 1048576))).setCell ⟨w.heap.size + 1 + 1, 2, none⟩ (.int .i64 (x % 1048576))).heap[w.heap.size + 1 + 1]? = some (.cells #[.int .i64 (x / 1099511627776), .int .i64 (x / 1048576 % 1048576), .int .i64 (x % 1048576)] 41 (0, 0)) := by
    refine put3 (c0 := .int .i64 0) (c1 := .int .i64 0) (c2 := .int .i64 0) ?_ _ _ _
    rw [Below.heap_setCell _ _ _ _ (by simp), Below.heap_setCell _ _ _ _ (by simp), Below.heap_setCell _ _ _ _ (by simp)]
    exact G8.out
  obtain ⟨⟨z0, z1, z2⟩, _⟩ := cell3 hres
  obtain ⟨⟨z3, z4, z5⟩, _⟩ := cell3 hhd
  refine bodyPost_ret (v := .tuple #[.agg #[(.slice A6 D.length cap6), .int .i64 cnt1, .int .i64 2], Words.opened x]) ?_ rfl (fin.out _ ⟨?_, hn, ?_⟩)
  · generalize ((((((w8.setCell ⟨w.heap.size + 1, 0, none⟩ (.slice A6 D.length cap6)).setCell ⟨w.heap.size + 1, 1, none⟩ (.int .i64 cnt1)).setCell ⟨w.heap.size + 1, 2, none⟩ (.int .i64 2)).setCell ⟨w.heap.size + 1 + 1, 0, none⟩ (.int .i64 (x / 1099511627776))).setCell ⟨w.heap.size + 1 + 1, 1, none⟩ (.int .i64 (x / 1048576 % 1048576))).setCell ⟨w.heap.size + 1 + 1, 2, none⟩ (.int .i64 (x % 1048576))) = wz at z0 z1 z2 z3 z4 z5 ⊢
    simp [results, Try.results45, go_sem, Words.opened, z0, z1, z2, z3, z4, z5]
  · have o : Only (fun k => k = w.heap.size + 1 ∨ k = w.heap.size + 1 + 1) w8 ((((((w8.setCell ⟨w.heap.size + 1, 0, none⟩ (.slice A6 D.length cap6)).setCell ⟨w.heap.size + 1, 1, none⟩ (.int .i64 cnt1)).setCell ⟨w.heap.size + 1, 2, none⟩ (.int .i64 2)).setCell ⟨w.heap.size + 1 + 1, 0, none⟩ (.int .i64 (x / 1099511627776))).setCell ⟨w.heap.size + 1 + 1, 1, none⟩ (.int .i64 (x / 1048576 % 1048576))).setCell ⟨w.heap.size + 1 + 1, 2, none⟩ (.int .i64 (x % 1048576))) :=
      ((((((refl (fun k => k = w.heap.size + 1 ∨ k = w.heap.size + 1 + 1) w8).setCell (p := ⟨w.heap.size + 1, 0, none⟩) (fun _ => .inl rfl) _).setCell (p := ⟨w.heap.size + 1, 1, none⟩) (fun _ => .inl rfl) _).setCell (p := ⟨w.heap.size + 1, 2, none⟩) (fun _ => .inl rfl) _).setCell (p := ⟨w.heap.size + 1 + 1, 0, none⟩) (fun _ => .inr rfl) _).setCell (p := ⟨w.heap.size + 1 + 1, 1, none⟩) (fun _ => .inr rfl) _).setCell (p := ⟨w.heap.size + 1 + 1, 2, none⟩) (fun _ => .inr rfl) _
    exact (T.out.ref.below hb9).keep o (fun k hk e => by have := gone.out k hk; have e : k = w.heap.size + 1 ∨ k = w.heap.size + 1 + 1 := e; omega)
  · have q := F8.out.bel
    exact (((((q.setCell (by simp) _).setCell (by simp) _).setCell (by simp) _).setCell (by simp <;> omega) _).setCell (by simp <;> omega) _).setCell (by simp <;> omega) _

/-- What New leaves. -/
def RNew (B : Nat) (s : Value) (w : World) (e : Ending) (w' : World) : Prop :=
  ∃ s', e = .returned (.tuple #[.agg #[s', .int .i64 0, .int .i64 2], .bool true]) ∧ RefNext B s s' (List.replicate 35 0) w w'

set_option maxHeartbeats 8000000 in
set_option maxRecDepth 100000 in
theorem new (s : Value) (w : World) (B : Nat) (h : RefAt B s (List.replicate 2 0) w) (hB : B ≤ w.heap.size) :
    Calls Try.prog 18 #[.agg #[s, .int .i64 0]] w (RNew B s w) := by
  obtain ⟨A, cap, hs, hcap⟩ := own_any h.own
  simp at hs hcap
  subst hs
  have hb2 : Below w.heap.size w ((w.alloc (.cells #[.slice A 2 cap, .int .i64 0] 35)).alloc (.cells #[.slice none 0 0, .int .i64 0, .int .i64 0] 37)) := ((Below.refl _ _).alloc (Nat.le_refl _) _).alloc (by simp) _
  have r2 : ((w.alloc (.cells #[.slice A 2 cap, .int .i64 0] 35)).alloc (.cells #[.slice none 0 0, .int .i64 0, .int .i64 0] 37)).heap[w.heap.size + 1]? = some (.cells #[.slice none 0 0, .int .i64 0, .int .i64 0] 37 (0, 0)) := by
    have := new3 (w.alloc (.cells #[.slice A 2 cap, .int .i64 0] 35)) (.slice none 0 0) (.int .i64 0) (.int .i64 0) 37
    simpa using this
  have H := Lib.hid h
  have h3 := Lib.hid (h.below hb2)
  have r2 := Lib.hid r2
  have hb2 := Lib.hid hb2
  clear h
  go_enter Try.func18, Try.ntmps18
  go_wp2_with fail
  refine (RefX.grow _ _ _ B h3.out (Nat.le_trans hB hb2.out.size) 0 33 (by simp)).mono ?_
  rintro e w6 ⟨s', rfl, h6⟩
  obtain ⟨A6, cap6, hs6, hcap6⟩ := own_any h6.ref.own
  have hl35 : (List.replicate 2 (0:Int) ++ List.replicate 33 0).length = 35 := by decide
  rw [hl35] at hs6
  subst hs6
  have r6 := (h6.bel.block _ (lt_of_heap r2.out)).trans r2.out
  obtain ⟨⟨s0, s1, s2⟩, p0, p1, p2⟩ := cell3 r6
  have hb6 := hb2.out.trans (h6.bel.mono hb2.out.size)
  have hl6 := lt_of_heap r6
  have hold : ∀ k, (Value.slice A6 35 cap6).ownBlock = some k → k < w.heap.size ∨ w.heap.size + 1 < k := by
    intro k hk
    rcases h6.new with e | e
    · rw [e] at hk
      rcases H.out.own.2 with ⟨h2, _⟩ | ⟨g, cap, cur, hg, hb, hgg, _⟩
      · rw [h2] at hk; cases hk
      · rw [hg] at hk
        have e3 : g = k := by simpa [Value.ownBlock] using hk
        have := lt_of_heap hgg; omega
    · have := e k hk; simp at this; omega
  have hn : Value.slice A6 35 cap6 = .slice A 2 cap ∨ ∀ k, (Value.slice A6 35 cap6).ownBlock = some k → w.heap.size ≤ k := h6.new.imp id (fun e k hk => Nat.le_trans (by simp <;> omega) (e k hk))
  have K := Lib.hid (And.intro h6.ref (And.intro hold (And.intro hn hb6)))
  have r6 := Lib.hid r6
  clear h6 hold hn hb6
  rw [show ((List.replicate 2 (0:Int)).length : Int) = 2 by decide]
  go_wp2
  obtain ⟨hr, hold, hn, hb6⟩ := K.out
  have hres := (heap_alloc_old (((w6.setCell ⟨w.heap.size + 1, 0, none⟩ (.slice A6 35 cap6)).setCell ⟨w.heap.size + 1, 1, none⟩ (.int .i64 0)).setCell ⟨w.heap.size + 1, 2, none⟩ (.int .i64 2)) (.cells #[.slice A6 35 cap6, .int .i64 0] 35) (by simpa [World.setCell] using hl6)).trans (put3 r6.out (.slice A6 35 cap6) (.int .i64 0) (.int .i64 2))
  obtain ⟨⟨z0, z1, z2⟩, _⟩ := cell3 hres
  have o : Only (fun k => k = w.heap.size + 1) w6 (((w6.setCell ⟨w.heap.size + 1, 0, none⟩ (.slice A6 35 cap6)).setCell ⟨w.heap.size + 1, 1, none⟩ (.int .i64 0)).setCell ⟨w.heap.size + 1, 2, none⟩ (.int .i64 2)) :=
    (((refl (fun k => k = w.heap.size + 1) w6).setCell (p := ⟨w.heap.size + 1, 0, none⟩) (fun _ => rfl) _).setCell (p := ⟨w.heap.size + 1, 1, none⟩) (fun _ => rfl) _).setCell (p := ⟨w.heap.size + 1, 2, none⟩) (fun _ => rfl) _
  have o2 := o.alloc (.cells #[.slice A6 35 cap6, .int .i64 0] 35)
  refine bodyPost_ret (v := .tuple #[.agg #[.slice A6 35 cap6, .int .i64 0, .int .i64 2], .bool true]) ?_ rfl ⟨_, rfl, ?_, hn, ?_⟩
  · generalize ((((w6.setCell ⟨w.heap.size + 1, 0, none⟩ (.slice A6 35 cap6)).setCell ⟨w.heap.size + 1, 1, none⟩ (.int .i64 0)).setCell ⟨w.heap.size + 1, 2, none⟩ (.int .i64 2)).alloc (.cells #[.slice A6 35 cap6, .int .i64 0] 35)) = wz at z0 z1 z2 ⊢
    simp [results, Try.results18, go_sem, z0, z1, z2]
  · exact hr.keep o2 (fun k hk e => by have := hold k hk; have e : k = w.heap.size + 1 := e; omega)
  · exact hb6.trans (o2.toBelow _ (by omega) (fun k _ e => by have e : k = w.heap.size + 1 := e; omega))

end Go.Proofs.Ytllibgjajlgnbab.RingRef
