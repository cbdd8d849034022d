/- awake. -/
import Derived.Test.YtecjkpjcmgohmabOr7
namespace Go.Proofs.Ytecjkpjcmgohmab.Or
open Go Go.RowKit Go.Maps Go.Proofs.Ytecjkpjcmgohmab.Only Go.Proofs.Ytecjkpjcmgohmab.Pu Go.Proofs.YtecjkpjcmgohmabW.PrintLast
set_option linter.unusedVariables false
set_option linter.unusedSimpArgs false
def ka : ByteArray := ⟨#[97]⟩
def aa : C := ⟨1, ka, true, 0, 1⟩
def ab : C := ⟨1, ka, true, 2, 3⟩
def ac : C := ⟨1, ka, false, 0, 3⟩
def ad : C := ⟨2, ka, false, 0, -1⟩
theorem f1 : fitsB [] [aa] = true := by decide
theorem f2 : fitsB [] [aa, ab] = false := by decide
theorem f3 : fitsB [] [aa, ac] = true := by decide
theorem f4 : fitsB [] [aa, ab, ad] = true := by decide
theorem f5 : ahd aa ab = true := by decide
theorem fitsNew (w : World) (l : List C) (hk : ∀ c ∈ l, c.key.size ≤ maxLen) (hl : l.length ≤ maxLen) : Calls Try.prog 13 #[.slice none 0 0, .slice (some ⟨w.heap.size, 0, none⟩) l.length l.length] (w.alloc (.cells (flat l).toArray 29)) fun e w' => e = .returned (.bool (fitsB [] l)) ∧ Below w.heap.size w w' :=
  (fitsAll (Strs.nil _) (own_new w 0 l (Nat.zero_le _) hl) hk).mono (fun e w' ⟨h1, h2⟩ => ⟨h1, ((Below.refl _ _).alloc (Nat.le_refl _) _).trans (h2.mono (by simp))⟩)
theorem kaS : ka.size ≤ maxLen := by show 1 ≤ _; simp [maxLen]
/-- The four calls lie in memory. -/
structure Four (k : Nat) (w : World) : Prop where
  h0 : w.heap[k]? = some (.cells #[.int .i64 1, .string { data := #[97] }, .bool true, .int .i64 0, .int .i64 1] 29 (0, 0))
  h1 : w.heap[k + 1]? = some (.cells #[.int .i64 1, .string { data := #[97] }, .bool true, .int .i64 2, .int .i64 3] 29 (0, 0))
  h2 : w.heap[k + 1 + 1]? = some (.cells #[.int .i64 1, .string { data := #[97] }, .bool false, .int .i64 0, .int .i64 3] 29 (0, 0))
  h3 : w.heap[k + 1 + 1 + 1]? = some (.cells #[.int .i64 2, .string { data := #[97] }, .bool false, .int .i64 0, .int .i64 (-1)] 29 (0, 0))
theorem Four.below {k : Nat} {w w' : World} (h : Four k w) (hb : Below w.heap.size w w') : Four k w' :=
  ⟨(hb.block _ (lt_of_heap h.h0)).trans h.h0, (hb.block _ (lt_of_heap h.h1)).trans h.h1, (hb.block _ (lt_of_heap h.h2)).trans h.h2, (hb.block _ (lt_of_heap h.h3)).trans h.h3⟩
theorem Four.new (w : World) : ∃ w4, w4 = ((((w.alloc (.cells #[.int .i64 1, .string { data := #[97] }, .bool true, .int .i64 0, .int .i64 1] 29)).alloc (.cells #[.int .i64 1, .string { data := #[97] }, .bool true, .int .i64 2, .int .i64 3] 29)).alloc (.cells #[.int .i64 1, .string { data := #[97] }, .bool false, .int .i64 0, .int .i64 3] 29)).alloc (.cells #[.int .i64 2, .string { data := #[97] }, .bool false, .int .i64 0, .int .i64 (-1)] 29)) ∧ Four w.heap.size w4 ∧ Below w.heap.size w w4 := by
  refine ⟨_, rfl, ⟨?_, ?_, ?_, ?_⟩, ?_⟩
  · rw [heap_alloc_old _ _ (by simp; omega), heap_alloc_old _ _ (by simp; omega), heap_alloc_old _ _ (by simp)]
    exact heap_alloc_new w _
  · rw [heap_alloc_old _ _ (by simp), heap_alloc_old _ _ (by simp)]
    have := heap_alloc_new (w.alloc (.cells #[.int .i64 1, .string { data := #[97] }, .bool true, .int .i64 0, .int .i64 1] 29)) (.cells #[.int .i64 1, .string { data := #[97] }, .bool true, .int .i64 2, .int .i64 3] 29)
    simpa using this
  · rw [heap_alloc_old _ _ (by simp)]
    have := heap_alloc_new ((w.alloc (.cells #[.int .i64 1, .string { data := #[97] }, .bool true, .int .i64 0, .int .i64 1] 29)).alloc (.cells #[.int .i64 1, .string { data := #[97] }, .bool true, .int .i64 2, .int .i64 3] 29)) (.cells #[.int .i64 1, .string { data := #[97] }, .bool false, .int .i64 0, .int .i64 3] 29)
    simpa using this
  · have := heap_alloc_new (((w.alloc (.cells #[.int .i64 1, .string { data := #[97] }, .bool true, .int .i64 0, .int .i64 1] 29)).alloc (.cells #[.int .i64 1, .string { data := #[97] }, .bool true, .int .i64 2, .int .i64 3] 29)).alloc (.cells #[.int .i64 1, .string { data := #[97] }, .bool false, .int .i64 0, .int .i64 3] 29)) (.cells #[.int .i64 2, .string { data := #[97] }, .bool false, .int .i64 0, .int .i64 (-1)] 29)
    simpa using this
  · exact ((((Below.refl _ _).alloc (Nat.le_refl _) _).alloc (by simp) _).alloc (by simp; omega) _).alloc (by simp; omega) _
theorem five {w : World} {g : Nat} {c0 c1 c2 c3 c4 : Value} {T : TypeId} (h : w.heap[g]? = some (.cells #[c0, c1, c2, c3, c4] T (0, 0))) : w.cell? ⟨g, 0, none⟩ = some c0 ∧ w.cell? ⟨g, 1, none⟩ = some c1 ∧ w.cell? ⟨g, 2, none⟩ = some c2 ∧ w.cell? ⟨g, 3, none⟩ = some c3 ∧ w.cell? ⟨g, 4, none⟩ = some c4 := by simp [World.cell?, h]
set_option maxHeartbeats 4000000 in
set_option maxRecDepth 100000 in
theorem awake (w : World) : Calls Try.prog 9 #[] w fun e w' => e = .returned (.bool true) ∧ Below w.heap.size w w' := by
  have F1 := fun w => fitsNew w [aa] (fun c hc => by simp at hc; subst hc; exact kaS) (by simp [maxLen])
  have F2 := fun w => fitsNew w [aa, ab] (fun c hc => by simp at hc; rcases hc with rfl | rfl <;> exact kaS) (by simp [maxLen])
  have F3 := fun w => fitsNew w [aa, ac] (fun c hc => by simp at hc; rcases hc with rfl | rfl <;> exact kaS) (by simp [maxLen])
  have F4 := fun w => fitsNew w [aa, ab, ad] (fun c hc => by simp at hc; rcases hc with rfl | rfl | rfl <;> exact kaS) (by simp [maxLen])
  have F5 := fun w => aheadC aa ab w
  rw [f1] at F1
  rw [f2] at F2
  rw [f3] at F3
  rw [f4] at F4
  rw [f5] at F5
  replace F1 := Lib.hid F1
  replace F2 := Lib.hid F2
  replace F3 := Lib.hid F3
  replace F4 := Lib.hid F4
  replace F5 := Lib.hid F5
  go_enter Try.func9, Try.ntmps9
  go_upto_region 5 with fail
  obtain ⟨w4, e4, H4, b4⟩ := Four.new w
  rw [← e4]
  clear e4
  obtain ⟨x0, x1, x2, x3, x4⟩ := five H4.h0
  obtain ⟨y0, y1, y2, y3, y4⟩ := five H4.h1
  obtain ⟨z0, z1, z2, z3, z4⟩ := five H4.h2
  obtain ⟨u0, u1, u2, u3, u4⟩ := five H4.h3
  replace H4 := Lib.hid H4
  replace b4 := Lib.hid b4
  go_wp2_with fail
  refine (F1.out _).mono ?_
  rintro e w5 ⟨rfl, b5⟩
  have H5 := H4.out.below b5
  have c5 : Below w.heap.size w w5 := b4.out.trans (b5.mono b4.out.size)
  clear x0 x1 x2 x3 x4 y0 y1 y2 y3 y4 z0 z1 z2 z3 z4 u0 u1 u2 u3 u4 b5
  obtain ⟨x0, x1, x2, x3, x4⟩ := five H5.h0
  obtain ⟨y0, y1, y2, y3, y4⟩ := five H5.h1
  obtain ⟨z0, z1, z2, z3, z4⟩ := five H5.h2
  obtain ⟨u0, u1, u2, u3, u4⟩ := five H5.h3
  replace H5 := Lib.hid H5
  have b5 := Lib.hid c5
  clear c5
  go_wp2_with fail
  refine (F2.out _).mono ?_
  rintro e w6 ⟨rfl, b6⟩
  have H6 := H5.out.below b6
  have c6 : Below w.heap.size w w6 := b5.out.trans (b6.mono b5.out.size)
  clear x0 x1 x2 x3 x4 y0 y1 y2 y3 y4 z0 z1 z2 z3 z4 u0 u1 u2 u3 u4 b6
  obtain ⟨x0, x1, x2, x3, x4⟩ := five H6.h0
  obtain ⟨y0, y1, y2, y3, y4⟩ := five H6.h1
  obtain ⟨z0, z1, z2, z3, z4⟩ := five H6.h2
  obtain ⟨u0, u1, u2, u3, u4⟩ := five H6.h3
  replace H6 := Lib.hid H6
  have b6 := Lib.hid c6
  clear c6
  go_wp2_with fail
  refine (F3.out _).mono ?_
  rintro e w7 ⟨rfl, b7⟩
  have H7 := H6.out.below b7
  have c7 : Below w.heap.size w w7 := b6.out.trans (b7.mono b6.out.size)
  clear x0 x1 x2 x3 x4 y0 y1 y2 y3 y4 z0 z1 z2 z3 z4 u0 u1 u2 u3 u4 b7
  obtain ⟨x0, x1, x2, x3, x4⟩ := five H7.h0
  obtain ⟨y0, y1, y2, y3, y4⟩ := five H7.h1
  obtain ⟨z0, z1, z2, z3, z4⟩ := five H7.h2
  obtain ⟨u0, u1, u2, u3, u4⟩ := five H7.h3
  replace H7 := Lib.hid H7
  have b7 := Lib.hid c7
  clear c7
  go_wp2_with fail
  refine (F4.out _).mono ?_
  rintro e w8 ⟨rfl, b8⟩
  have H8 := H7.out.below b8
  have c8 : Below w.heap.size w w8 := b7.out.trans (b8.mono b7.out.size)
  clear x0 x1 x2 x3 x4 y0 y1 y2 y3 y4 z0 z1 z2 z3 z4 u0 u1 u2 u3 u4 b8
  obtain ⟨x0, x1, x2, x3, x4⟩ := five H8.h0
  obtain ⟨y0, y1, y2, y3, y4⟩ := five H8.h1
  obtain ⟨z0, z1, z2, z3, z4⟩ := five H8.h2
  obtain ⟨u0, u1, u2, u3, u4⟩ := five H8.h3
  replace H8 := Lib.hid H8
  have b8 := Lib.hid c8
  clear c8
  go_wp2_with fail
  refine (F5.out _).mono ?_
  rintro e w9 ⟨rfl, b9⟩
  go_wp2_with fail
  go_ret
  exact ⟨rfl, b8.out.trans (b9.mono b8.out.size)⟩
end Go.Proofs.Ytecjkpjcmgohmab.Or
