/- The reference's Take answers what the program's does. -/
import Derived.Test.YtecjkpjcmgohmaaSt
import Derived.Test.YtecjkpjcmgohmaaWalkTokenTells
import Derived.Lib.Hide
import Derived.Outline
namespace Go.Proofs.Ytecjkpjcmgohmaa.RefTake
open Go Go.RowKit Go.Proofs.YtecjkpjcmgohmaaW.PrintWords Go.Proofs.YtecjkpjcmgohmaaW.PrintLast Go.Proofs.Ytecjkpjcmgohmaa.Q Go.Proofs.Ytecjkpjcmgohmaa.Str Go.Proofs.Ytecjkpjcmgohmaa.Sk Go.Proofs.Ytecjkpjcmgohmaa.St
set_option linter.unusedVariables false
set_option linter.unusedSimpArgs false

theorem call_rmay (a b : ByteArray) (n : Int) (o : Bool) (hb : b.size ≤ 9223372036854775807) (r : Bool) (h : decide (mayT a b n) = r) (w : World) : Calls Try.prog 12 #[.agg #[.string a, .string b, .int .i64 n, .bool o]] w fun e w' => e = .returned (.bool r) ∧ Below w.heap.size w w' :=
  impostref09_May.calls a b n o r w (by rw [ref_may a b n o hb, h])
theorem call_rput (a b : ByteArray) (n : Int) (o : Bool) (ha : a.size ≤ 300) (hb : b.size ≤ 300) (r : ByteArray) (h : putB a b n o = r) (w : World) : Calls Try.prog 14 #[.agg #[.string a, .string b, .int .i64 n, .bool o]] w fun e w' => e = .returned (.string r) ∧ Below w.heap.size w w' :=
  impostref09_Put.calls a b n o r w (by rw [WalkTokenTells.ref_put a b n o ha hb, h])

/-- A result of Take. -/
def tv (a b : ByteArray) (n : Int) (o : Bool) (e : Int) : Value := .tuple #[.agg #[.string a, .string b, .int .i64 n, .bool o], .int .i64 e]

theorem cells4 {w : World} {g : Nat} {c0 c1 c2 c3 : Value} {t : TypeId} (h : w.heap[g]? = some (.cells #[c0, c1, c2, c3] t (0, 0))) : w.cell? ⟨g, 0, none⟩ = some c0 ∧ w.cell? ⟨g, 1, none⟩ = some c1 ∧ w.cell? ⟨g, 2, none⟩ = some c2 ∧ w.cell? ⟨g, 3, none⟩ = some c3 ∧
    w.frozen? ⟨g, 0, none⟩ = false ∧ w.frozen? ⟨g, 1, none⟩ = false ∧ w.frozen? ⟨g, 2, none⟩ = false ∧ w.frozen? ⟨g, 3, none⟩ = false :=
  ⟨(blk_cell h 0).trans rfl, (blk_cell h 1).trans rfl, (blk_cell h 2).trans rfl, (blk_cell h 3).trans rfl, blk_frozen h 0, blk_frozen h 1, blk_frozen h 2, blk_frozen h 3⟩

theorem put4 {w : World} {g : Nat} {c0 c1 c2 c3 : Value} {t : TypeId} (h : w.heap[g]? = some (.cells #[c0, c1, c2, c3] t (0, 0))) (u0 u1 u2 u3 : Value) :
    ((((w.setCell ⟨g, 0, none⟩ u0).setCell ⟨g, 1, none⟩ u1).setCell ⟨g, 2, none⟩ u2).setCell ⟨g, 3, none⟩ u3).heap[g]? = some (.cells #[u0, u1, u2, u3] t (0, 0)) := by
  simp [World.setCell, Array.getElem?_modify, h]
theorem bel4 {w w4 : World} {g B : Nat} (hb : Below B w w4) (hg : B ≤ g) (u0 u1 u2 u3 : Value) : Below B w ((((w4.setCell ⟨g, 0, none⟩ u0).setCell ⟨g, 1, none⟩ u1).setCell ⟨g, 2, none⟩ u2).setCell ⟨g, 3, none⟩ u3) :=
  (((hb.setCell (p := ⟨g, 0, none⟩) hg _).setCell (p := ⟨g, 1, none⟩) hg _).setCell (p := ⟨g, 2, none⟩) hg _).setCell (p := ⟨g, 3, none⟩) hg _
theorem end4 {w w3 : World} {g B : Nat} {c0 c1 c2 c3 : Value} (h : w3.heap[g]? = some (.cells #[c0, c1, c2, c3] 25 (0, 0))) (hb : Below B w w3) (hg : B ≤ g) (u0 u1 u2 u3 : Value) :
    ∃ w4, w4 = ((((w3.setCell ⟨g, 0, none⟩ u0).setCell ⟨g, 1, none⟩ u1).setCell ⟨g, 2, none⟩ u2).setCell ⟨g, 3, none⟩ u3) ∧ (w4.cell? ⟨g, 0, none⟩ = some u0 ∧ w4.cell? ⟨g, 1, none⟩ = some u1 ∧ w4.cell? ⟨g, 2, none⟩ = some u2 ∧ w4.cell? ⟨g, 3, none⟩ = some u3) ∧ Below B w w4 := by
  have hp := put4 h u0 u1 u2 u3
  exact ⟨_, rfl, ⟨(blk_cell hp 0).trans rfl, (blk_cell hp 1).trans rfl, (blk_cell hp 2).trans rfl, (blk_cell hp 3).trans rfl⟩, bel4 hb hg u0 u1 u2 u3⟩

set_option maxHeartbeats 4000000 in
set_option maxRecDepth 100000 in
theorem take_short (s : ByteArray) (hs : s.size ≤ 140737488351232) (h : ¬ long s) (w : World) :
    Calls Try.prog 16 #[.string s] w fun e w' => e = .returned (tv ⟨#[]⟩ ⟨#[]⟩ 0 false 2) ∧ Below w.heap.size w w' := by
  have HB : Below w.heap.size w (w.alloc (.cells #[.string ⟨#[]⟩, .string ⟨#[]⟩, .int .i64 0, .bool false] 25)) := (Below.refl _ _).alloc (Nat.le_refl _) _
  by_cases h5 : s.size < 5
  · have b1 : decide ((s.size : Int) < 5) = true := by simp; omega
    have b2 : decide (s.size < 5) = true := by simp; omega
    clear h
    go_enter Try.func16, Try.ntmps16
    go_wp2
    exact bodyPost_ret (v := tv ⟨#[]⟩ ⟨#[]⟩ 0 false 2) (by simp [results, Try.results16, go_sem, tv]) rfl ⟨rfl, HB⟩
  · have b1 : decide ((s.size : Int) < 5) = false := by simp; omega
    have b2 : decide (s.size < 5) = false := by simp; omega
    have hl : ¬ (B s 3).toNat + 5 ≤ s.size := fun e => h ⟨by omega, e⟩
    have r := B_range s 3
    have e3 : bt s 3 = B s 3 := bt_list s 3 (by omega)
    have hx : ∀ g : 3 < s.size, ((s[3]'g).toNat : Int) = B s 3 := fun g => (bt_at s 3 g).trans e3
    have q6 : (3 < s.size) = True := eq_true (by omega)
    have qi6 : (3 < (s.size : Int)) = True := eq_true (by omega)
    have b3 : decide ((s.size : Int) < 5 + B s 3) = true := by simp; omega
    generalize B s 3 = x at *
    clear h hl e3
    go_enter Try.func16, Try.ntmps16
    go_wp2
    exact bodyPost_ret (v := tv ⟨#[]⟩ ⟨#[]⟩ 0 false 2) (by simp [results, Try.results16, go_sem, tv]) rfl ⟨rfl, HB⟩
theorem toL4 (x : Int) (h : 0 ≤ x) : (4 + x).toNat = 4 + x.toNat := by omega

def refTake.T4 : Bool × List (List Nat × List Nat) := (true, [([], []), ([0], [0]), ([1], [1]), ([2], [2]), ([], []), ([4], [4]), ([5], [5]), ([3, 6], [3, 6]), ([], []), ([8], [8]), ([9], [9]), ([7, 10], [7, 10]), ([], []), ([12, 11, 0, 1, 2, 3, 4, 5, 6, 7, 8, 9, 10, 11, 12], [11, 12])])
def refTake.B4 : List Nat := [0, 1, 3, 7, 0, 16, 48, 127, 0, 256, 768, 2047, 0, 8191]
theorem refTake.tab4 : rtab .any (opsOf Try.f16 4) = refTake.T4 := by kernel_rfl
theorem refTake.bits4 : waitsOk refTake.T4.2 refTake.B4 = true := by kernel_rfl
set_option maxHeartbeats 8000000 in
set_option maxRecDepth 100000 in
theorem take_long (s : ByteArray) (hs : s.size ≤ 140737488351232) (h : long s) (w : World) :
    Calls Try.prog 16 #[.string s] w fun e w' => e = .returned (if mayT (partA s) (partB s) (partN s) then (if putB (partA s) (partB s) (partN s) (partO s) = s then tv (partA s) (partB s) (partN s) (partO s) 0 else tv ⟨#[]⟩ ⟨#[]⟩ 0 false 2) else tv ⟨#[]⟩ ⟨#[]⟩ 0 false 2) ∧ Below w.heap.size w w' := by
  have hl := h.2
  have h5 := h.1
  have b1 : decide ((s.size : Int) < 5) = false := by simp; omega
  have b2 : decide (s.size < 5) = false := by simp; omega
  have r0 := B_range s 0
  have r1 := B_range s 1
  have r2 := B_range s 2
  have r3 := B_range s 3
  have hx0 : ∀ g : 0 < s.size, ((s[0]'g).toNat : Int) = B s 0 := fun g => (bt_at s 0 g).trans (bt_list s 0 (by omega))
  have hx1 : ∀ g : 1 < s.size, ((s[1]'g).toNat : Int) = B s 1 := fun g => (bt_at s 1 g).trans (bt_list s 1 (by omega))
  have hx2 : ∀ g : 2 < s.size, ((s[2]'g).toNat : Int) = B s 2 := fun g => (bt_at s 2 g).trans (bt_list s 2 (by omega))
  have hx3 : ∀ g : 3 < s.size, ((s[3]'g).toNat : Int) = B s 3 := fun g => (bt_at s 3 g).trans (bt_list s 3 (by omega))
  have q0 : (0 < s.size) = True := eq_true (by omega)
  have q1 : (1 < s.size) = True := eq_true (by omega)
  have q2 : (2 < s.size) = True := eq_true (by omega)
  have q3 : (3 < s.size) = True := eq_true (by omega)
  have i0 : (0 < (s.size : Int)) = True := eq_true (by omega)
  have i1 : (1 < (s.size : Int)) = True := eq_true (by omega)
  have i2 : (2 < (s.size : Int)) = True := eq_true (by omega)
  have i3 : (3 < (s.size : Int)) = True := eq_true (by omega)
  have b3 : decide ((s.size : Int) < 5 + B s 3) = false := by simp; omega
  have eA := Lib.hid (show s.extract 4 (4 + B s 3).toNat = partA s by rw [natA _ r3.1]; rfl)
  have eB := Lib.hid (show s.extract (5 + B s 3).toNat s.size = partB s by rw [natB _ r3.1]; rfl)
  have eN := Lib.hid (show wrap64 (wrap64 (256 * wrap64 (B s 1)) + wrap64 (B s 2)) = partN s by unfold partN wrap64; omega)
  have eO := Lib.hid (show (B s 0 == 111) = partO s from rfl)
  have c4 : (4 ≤ 4 + B s 3) = True := eq_true (by omega)
  have c5 : (4 + B s 3 ≤ (s.size : Int)) = True := eq_true (by omega)
  have c6 : ((0 : Int) ≤ 5 + B s 3) = True := eq_true (by omega)
  have c7 : (5 + B s 3 ≤ (s.size : Int)) = True := eq_true (by omega)
  have m1 : (partB s).size ≤ 9223372036854775807 := by have := parts_size s h; omega
  have m2 := m1
  generalize partA s = A at *
  generalize partB s = Bb at *
  generalize partN s = N at *
  generalize partO s = O at *
  generalize B s 0 = x0 at *
  generalize B s 1 = x1 at *
  generalize B s 2 = x2 at *
  generalize B s 3 = x3 at *
  obtain ⟨R, hR⟩ : ∃ R, (if mayT A Bb N then (if putB A Bb N O = s then tv A Bb N O 0 else tv ⟨#[]⟩ ⟨#[]⟩ 0 false 2) else tv ⟨#[]⟩ ⟨#[]⟩ 0 false 2) = R := ⟨_, rfl⟩
  rw [hR]
  have hR := Lib.hid hR
  clear h hl
  go_enter Try.func16, Try.ntmps16
  go_wp2_with fail
  refine start_ (n := 14) (S := fun w' => True) (ds := []) #[false, false, false, false, false, false, false, false, false, false, false, false, false, false] (by kernel_rfl) rfl rfl trivial (fun hHeld => ?_)
  refine with_tabW refTake.tab4 refTake.bits4 (fun HT_ HW_ => ?_)
  refine pure_ (i := 0) (N := some 22) (v := ?_) (a' := ?_) #[true, false, false, false, false, false, false, false, false, false, false, false, false, false] rfl rfl (any_of HT_.out (by kernel_rfl)) (fun _ _ _ h => h) (Or.inl ⟨by rfl, ?_⟩) ?_ ?_
  rotate_left
  · intro w'
    go_simp
    with_reducible rfl
  rotate_left
  · simp only [Act.put, List.setIfInBounds_toArray, List.set_cons_zero, List.set_cons_succ, i64_w, i32_w]
    rfl
  refine pure_ (i := 4) (N := some 26) (v := ?_) (a' := ?_) #[true, false, false, false, true, false, false, false, false, false, false, false, false, false] rfl rfl (any_of HT_.out (by kernel_rfl)) (fun _ _ _ h => h) (Or.inl ⟨by rfl, ?_⟩) ?_ ?_
  rotate_left
  · intro w'
    go_simp
    with_reducible rfl
  rotate_left
  · simp only [Act.put, List.setIfInBounds_toArray, List.set_cons_zero, List.set_cons_succ, i64_w, i32_w]
    rfl
  refine pure_ (i := 8) (N := some 30) (v := ?_) (a' := ?_) #[true, false, false, false, true, false, false, false, true, false, false, false, false, false] rfl rfl (any_of HT_.out (by kernel_rfl)) (fun _ _ _ h => h) (Or.inl ⟨by rfl, ?_⟩) ?_ ?_
  rotate_left
  · intro w'
    go_simp
    with_reducible rfl
  rotate_left
  · simp only [Act.put, List.setIfInBounds_toArray, List.set_cons_zero, List.set_cons_succ, i64_w, i32_w]
    rfl
  refine take_ (i := 1) (N := some 23) (v := ?_) (a' := ?_) #[true, true, false, false, true, false, false, false, true, false, false, false, false, false] rfl rfl (take_ofW HT_.out HW_.out (by kernel_rfl)) (fun _ _ _ h => h) (Or.inl ⟨by rfl, ?_⟩) hHeld ?_ ?_
  rotate_left
  · intro w' _
    go_simp
    with_reducible rfl
  rotate_left
  · simp only [Act.put, List.setIfInBounds_toArray, List.set_cons_zero, List.set_cons_succ, i64_w, i32_w]
    rfl
  refine pure_ (i := 2) (N := some 24) (v := ?_) (a' := ?_) #[true, true, true, false, true, false, false, false, true, false, false, false, false, false] rfl rfl (any_of HT_.out (by kernel_rfl)) (fun _ _ _ h => h) (Or.inl ⟨by rfl, ?_⟩) ?_ ?_
  rotate_left
  · intro w'
    go_simp
    with_reducible rfl
  rotate_left
  · simp only [Act.put, List.setIfInBounds_toArray, List.set_cons_zero, List.set_cons_succ, i64_w, i32_w]
    rfl
  refine pure_ (i := 3) (N := some 25) (v := ?_) (a' := ?_) #[true, true, true, true, true, false, false, false, true, false, false, false, false, false] rfl rfl (any_of HT_.out (by kernel_rfl)) (fun _ _ _ h => h) (Or.inl ⟨by rfl, ?_⟩) ?_ ?_
  rotate_left
  · intro w'
    go_simp
    with_reducible rfl
  rotate_left
  · simp only [Act.put, List.setIfInBounds_toArray, List.set_cons_zero, List.set_cons_succ, i64_w, i32_w]
    rfl
  refine take_ (i := 5) (N := some 27) (v := ?_) (a' := ?_) #[true, true, true, true, true, true, false, false, true, false, false, false, false, false] rfl rfl (take_ofW HT_.out HW_.out (by kernel_rfl)) (fun _ _ _ h => h) (Or.inl ⟨by rfl, ?_⟩) hHeld ?_ ?_
  rotate_left
  · intro w' _
    go_simp
    with_reducible rfl
  rotate_left
  · simp only [Act.put, List.setIfInBounds_toArray, List.set_cons_zero, List.set_cons_succ, i64_w, i32_w]
    rfl
  refine pure_ (i := 6) (N := some 28) (v := ?_) (a' := ?_) #[true, true, true, true, true, true, true, false, true, false, false, false, false, false] rfl rfl (any_of HT_.out (by kernel_rfl)) (fun _ _ _ h => h) (Or.inl ⟨by rfl, ?_⟩) ?_ ?_
  rotate_left
  · intro w'
    go_simp
    with_reducible rfl
  rotate_left
  · simp only [Act.put, List.setIfInBounds_toArray, List.set_cons_zero, List.set_cons_succ, i64_w, i32_w]
    rfl
  refine pure_ (i := 7) (N := some 29) (v := ?_) (a' := ?_) #[true, true, true, true, true, true, true, true, true, false, false, false, false, false] rfl rfl (any_of HT_.out (by kernel_rfl)) (fun _ _ _ h => h) (Or.inl ⟨by rfl, ?_⟩) ?_ ?_
  rotate_left
  · intro w'
    go_simp
    with_reducible rfl
  rotate_left
  · simp only [Act.put, List.setIfInBounds_toArray, List.set_cons_zero, List.set_cons_succ, i64_w, i32_w]
    rfl
  refine take_ (i := 9) (N := some 31) (v := ?_) (a' := ?_) #[true, true, true, true, true, true, true, true, true, true, false, false, false, false] rfl rfl (take_ofW HT_.out HW_.out (by kernel_rfl)) (fun _ _ _ h => h) (Or.inl ⟨by rfl, ?_⟩) hHeld ?_ ?_
  rotate_left
  · intro w' _
    go_simp
    with_reducible rfl
  rotate_left
  · simp only [Act.put, List.setIfInBounds_toArray, List.set_cons_zero, List.set_cons_succ, i64_w, i32_w]
    rfl
  refine pure_ (i := 10) (N := some 32) (v := ?_) (a' := ?_) #[true, true, true, true, true, true, true, true, true, true, true, false, false, false] rfl rfl (any_of HT_.out (by kernel_rfl)) (fun _ _ _ h => h) (Or.inl ⟨by rfl, ?_⟩) ?_ ?_
  rotate_left
  · intro w'
    go_simp
    with_reducible rfl
  rotate_left
  · simp only [Act.put, List.setIfInBounds_toArray, List.set_cons_zero, List.set_cons_succ, i64_w, i32_w]
    rfl
  refine pure_ (i := 11) (N := some 33) (v := ?_) (a' := ?_) #[true, true, true, true, true, true, true, true, true, true, true, true, false, false] rfl rfl (any_of HT_.out (by kernel_rfl)) (fun _ _ _ h => h) (Or.inl ⟨by rfl, ?_⟩) ?_ ?_
  rotate_left
  · intro w'
    go_simp
    with_reducible rfl
  rotate_left
  · simp only [Act.put, List.setIfInBounds_toArray, List.set_cons_zero, List.set_cons_succ, i64_w, i32_w]
    rfl
  refine one_ (i := 12) (N := some 5) #[true, true, true, true, true, true, true, true, true, true, true, true, true, false] rfl rfl (one_of HT_.out (by kernel_rfl)) (by decide) (fun K hK => ?_)
  refine value_ (w1 := ?_) (v := ?_) (by rfl) rfl ?_ ?_
  rotate_left 2
  · go_simp
    constructor
    · rfl
    · rfl
  refine hK.out _ _ trivial (fun hHeld => ?_)
  clear hK K
  refine norm_ (a' := ?_) ?_ ?_
  rotate_left
  · show Act.put _ (some 5) _ = _
    simp only [Act.put, List.setIfInBounds_toArray, List.set_cons_zero, List.set_cons_succ, i64_w, i32_w]
    rfl
  refine one_ (i := 13) (N := none) #[true, true, true, true, true, true, true, true, true, true, true, true, true, true] rfl rfl (one_of HT_.out (by kernel_rfl)) (by decide) (fun K hK => ?_)
  refine skip_ (w1 := ?_) (by rfl) rfl ?_ ?_
  rotate_left
  · go_simp
    rfl
  refine hK.out _ _ trivial (fun hHeld => ?_)
  clear hK K
  refine done_ (done_of HT_.out (by kernel_rfl)) ?_
  go_wp2_with fail
  rw [eA.out, eB.out, eN.out, eO.out]
  have xr : ∀ c : Array Value, ((w.alloc (.cells #[.string ⟨#[]⟩, .string ⟨#[]⟩, .int .i64 0, .bool false] 25)).alloc (.cells c 25)).drew.heap[w.heap.size]? = some (.cells #[.string ⟨#[]⟩, .string ⟨#[]⟩, .int .i64 0, .bool false] 25 (0, 0)) := fun c =>
    (heap_alloc_old _ (.cells c 25) (by simp)).trans (heap_alloc_new w (.cells #[.string ⟨#[]⟩, .string ⟨#[]⟩, .int .i64 0, .bool false] 25))
  have xt : ((w.alloc (.cells #[.string ⟨#[]⟩, .string ⟨#[]⟩, .int .i64 0, .bool false] 25)).alloc (.cells #[.string A, .string Bb, .int .i64 N, .bool O] 25)).drew.heap[w.heap.size + 1]? = some (.cells #[.string A, .string Bb, .int .i64 N, .bool O] 25 (0, 0)) := by
    have := heap_alloc_new (w.alloc (.cells #[.string ⟨#[]⟩, .string ⟨#[]⟩, .int .i64 0, .bool false] 25)) (.cells #[.string A, .string Bb, .int .i64 N, .bool O] 25)
    rw [show (w.alloc (.cells #[.string ⟨#[]⟩, .string ⟨#[]⟩, .int .i64 0, .bool false] 25)).heap.size = w.heap.size + 1 by simp] at this
    exact this
  have hb : Below w.heap.size w ((w.alloc (.cells #[.string ⟨#[]⟩, .string ⟨#[]⟩, .int .i64 0, .bool false] 25)).alloc (.cells #[.string A, .string Bb, .int .i64 N, .bool O] 25)).drew := below_drew (((Below.refl _ _).alloc (Nat.le_refl _) _).alloc (by simp) _)
  have xr := Lib.hid (xr #[.string A, .string Bb, .int .i64 N, .bool O])
  have xt := Lib.hid xt
  have HB := Lib.hid hb
  clear hb
  generalize (((w.alloc (.cells #[.string ⟨#[]⟩, .string ⟨#[]⟩, .int .i64 0, .bool false] 25)).alloc (.cells #[.string A, .string Bb, .int .i64 N, .bool O] 25)).drew) = w1 at *
  by_cases hm : mayT A Bb N
  · have hR := hR.out
    rw [if_pos hm] at hR
    have hR := Lib.hid hR
    have z := may_size hm
    refine (call_rmay A Bb N O m1 true (decide_eq_true hm) w1).mono ?_
    rintro e w2 ⟨rfl, hb2⟩
    have HB := Lib.hid (HB.out.trans (hb2.mono HB.out.size))
    have xr := Lib.hid ((hb2.block _ (blk_lt xr.out)).trans xr.out)
    have xt := Lib.hid ((hb2.block _ (blk_lt xt.out)).trans xt.out)
    obtain ⟨t0, t1, t2, t3, -, -, -, -⟩ := cells4 xt.out
    clear hb2
    go_wp2_with fail
    refine (call_rput A Bb N O (by omega) (by omega) _ rfl w2).mono ?_
    rintro e w3 ⟨rfl, hb3⟩
    have HB := Lib.hid (HB.out.trans (hb3.mono HB.out.size))
    have xr := Lib.hid ((hb3.block _ (blk_lt xr.out)).trans xr.out)
    have xt := Lib.hid ((hb3.block _ (blk_lt xt.out)).trans xt.out)
    clear t0 t1 t2 t3 hb3
    obtain ⟨t0, t1, t2, t3, -, -, -, -⟩ := cells4 xt.out
    obtain ⟨c0, c1, c2, c3, f0, f1, f2, f3⟩ := cells4 xr.out
    have ne : ¬ w.heap.size + 1 = w.heap.size := by omega
    by_cases hp : putB A Bb N O = s
    · have hR := hR.out
      rw [if_pos hp] at hR
      subst hR
      have p1 : ((putB A Bb N O).toList == s.toList) = true := by rw [hp]; simp
      have p2 : ((putB A Bb N O).toList != s.toList) = false := by rw [bne, p1]; rfl
      generalize putB A Bb N O = P at *
      clear hp
      go_wp2
      obtain ⟨w4, e4, ⟨y0, y1, y2, y3⟩, B4⟩ := end4 xr.out HB.out (Nat.le_refl _) (.string A) (.string Bb) (.int .i64 N) (.bool O)
      rw [← e4]
      exact bodyPost_ret (v := tv A Bb N O 0) (by simp [results, Try.results16, go_sem, tv, y0, y1, y2, y3]) rfl ⟨rfl, B4⟩
    · have hR := hR.out
      rw [if_neg hp] at hR
      subst hR
      have p1 : ((putB A Bb N O).toList == s.toList) = false := by simpa [toL] using fun h => hp (ext_list h)
      have p2 : ((putB A Bb N O).toList != s.toList) = true := by rw [bne, p1]; rfl
      generalize putB A Bb N O = P at *
      clear hp
      go_wp2
      obtain ⟨w4, e4, ⟨y0, y1, y2, y3⟩, B4⟩ := end4 xr.out HB.out (Nat.le_refl _) (.string ⟨#[]⟩) (.string ⟨#[]⟩) (.int .i64 0) (.bool false)
      rw [← e4]
      exact bodyPost_ret (v := tv ⟨#[]⟩ ⟨#[]⟩ 0 false 2) (by simp [results, Try.results16, go_sem, tv, y0, y1, y2, y3]) rfl ⟨rfl, B4⟩
  · have hR := hR.out
    rw [if_neg hm] at hR
    subst hR
    refine (call_rmay A Bb N O m1 false (decide_eq_false hm) w1).mono ?_
    rintro e w2 ⟨rfl, hb2⟩
    have HB := Lib.hid (HB.out.trans (hb2.mono HB.out.size))
    have xr := Lib.hid ((hb2.block _ (blk_lt xr.out)).trans xr.out)
    obtain ⟨c0, c1, c2, c3, f0, f1, f2, f3⟩ := cells4 xr.out
    clear hb2
    go_wp2
    obtain ⟨w4, e4, ⟨y0, y1, y2, y3⟩, B4⟩ := end4 xr.out HB.out (Nat.le_refl _) (.string ⟨#[]⟩) (.string ⟨#[]⟩) (.int .i64 0) (.bool false)
    rw [← e4]
    exact bodyPost_ret (v := tv ⟨#[]⟩ ⟨#[]⟩ 0 false 2) (by simp [results, Try.results16, go_sem, tv, y0, y1, y2, y3]) rfl ⟨rfl, B4⟩
end Go.Proofs.Ytecjkpjcmgohmaa.RefTake
