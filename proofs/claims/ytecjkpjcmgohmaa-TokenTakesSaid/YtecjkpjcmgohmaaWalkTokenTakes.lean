/- Of any bytes (1000 at most) Take tells the document's token, or that there is none. No condition. -/
import Derived.Test.YtecjkpjcmgohmaaRefTake
namespace Go.Proofs.Ytecjkpjcmgohmaa.WalkTokenTakes
open Go Go.RowKit Go.Proofs.YtecjkpjcmgohmaaW.PrintWords Go.Proofs.YtecjkpjcmgohmaaW.PrintLast Go.Proofs.Ytecjkpjcmgohmaa.Q Go.Proofs.Ytecjkpjcmgohmaa.Str Go.Proofs.Ytecjkpjcmgohmaa.Sk Go.Proofs.Ytecjkpjcmgohmaa.St Go.Proofs.Ytecjkpjcmgohmaa.RefTake
set_option linter.unusedVariables false
set_option linter.unusedSimpArgs false

theorem both (s : ByteArray) (hs : s.size ≤ 140737488351232) : ∃ a b n o e, token_Take.f 1 s = some (a, b, n, o, e) ∧ ∀ w, Calls Try.prog 16 #[.string s] w fun x w' => x = .returned (tv a b n o e) ∧ Below w.heap.size w w' := by
  by_cases h : long s
  · have e := take_long s hs h
    have f := St.take_long 0 s hs h
    by_cases hm : mayT (partA s) (partB s) (partN s)
    · rw [if_pos hm] at f
      simp only [if_pos hm] at e
      by_cases hp : putB (partA s) (partB s) (partN s) (partO s) = s
      · rw [if_pos hp] at f
        simp only [if_pos hp] at e
        exact ⟨_, _, _, _, _, f, e⟩
      · rw [if_neg hp] at f
        simp only [if_neg hp] at e
        exact ⟨_, _, _, _, _, f, e⟩
    · rw [if_neg hm] at f
      simp only [if_neg hm] at e
      exact ⟨_, _, _, _, _, f, e⟩
  · exact ⟨_, _, _, _, _, St.take_short 0 s hs h, take_short s hs h⟩

def tokenTakes.T6 : Bool × List (List Nat × List Nat) := (true, [([], []), ([0], [0]), ([1], [1]), ([1], [1]), ([3, 1, 1], [1, 3]), ([2, 4, 1], [1, 2, 4]), ([1, 5], [1, 5]), ([6, 4], [6]), ([7], [7]), ([7], [7]), ([8, 9, 7], [7, 8, 9]), ([7, 10], [7, 10]), ([11, 7, 0, 1, 2, 3, 4, 5, 6, 7, 8, 9, 10, 11], [11])])
def tokenTakes.B6 : List Nat := [0, 1, 3, 3, 11, 31, 63, 127, 255, 255, 1023, 2047, 4095]
theorem tokenTakes.tab6 : rtab .any (opsOf Try.f4 6) = tokenTakes.T6 := by kernel_rfl
theorem tokenTakes.bits6 : waitsOk tokenTakes.T6.2 tokenTakes.B6 = true := by kernel_rfl
set_option maxHeartbeats 8000000 in
set_option maxRecDepth 100000 in
theorem walk (s : ByteArray) (hs : s.size ≤ 140737488351232) (w : World) :
    Calls Try.prog 4 #[.string s] w fun e w' => e = .returned (.bool true) ∧ Below w.heap.size w w' := by
  obtain ⟨a, b, n, o, er, hT, hR⟩ := both s hs
  have hT := Lib.hid hT
  have hR := Lib.hid hR
  by_cases hl : (1000 : Int) < s.size
  · have b1 : decide ((1000 : Int) < s.size) = true := by simpa using hl
    go_enter Try.func4, Try.ntmps4
    go_wp2_with fail
    refine (impostlaw09_awake.calls 3 true _ (awake_from 0)).mono ?_
    rintro e w1 ⟨rfl, hb1⟩
    have HB := Lib.hid hb1
    clear hb1
    go_wp2
    go_ret
    exact ⟨rfl, HB.out⟩
  · have b1 : decide ((1000 : Int) < s.size) = false := by simpa using hl
    go_enter Try.func4, Try.ntmps4
    go_wp2_with fail
    refine (impostlaw09_awake.calls 3 true _ (awake_from 0)).mono ?_
    rintro e w1 ⟨rfl, hb1⟩
    have HB := Lib.hid hb1
    clear hb1
    go_wp2_with fail
    refine (token_Take.calls 1 s a b n o er w1 hT.out).mono ?_
    rintro e w2 ⟨rfl, hb2⟩
    have HB := Lib.hid (HB.out.trans (hb2.mono HB.out.size))
    have hbx : Below w2.heap.size w2 (w2.alloc (.cells #[.string a, .string b, .int .i64 n, .bool o] 28)) := (Below.refl _ _).alloc (Nat.le_refl _) _
    have HB := Lib.hid (HB.out.trans (hbx.mono HB.out.size))
    have X4 := Lib.hid (heap_alloc_new w2 (.cells #[.string a, .string b, .int .i64 n, .bool o] 28))
    clear hb2 hbx
    go_wp2_with fail
    generalize (w2.alloc (.cells #[.string a, .string b, .int .i64 n, .bool o] 28)) = w3 at *
    generalize w2.heap.size = g4 at *
    refine (hR.out w3).mono ?_
    rintro e w4 ⟨rfl, hb4⟩
    have HB := Lib.hid (HB.out.trans (hb4.mono HB.out.size))
    have hbx : Below w4.heap.size w4 (w4.alloc (.cells #[.string a, .string b, .int .i64 n, .bool o] 25)) := (Below.refl _ _).alloc (Nat.le_refl _) _
    have HB := Lib.hid (HB.out.trans (hbx.mono HB.out.size))
    have X4 := Lib.hid ((hbx.block _ (Nat.lt_of_lt_of_le (blk_lt X4.out) hb4.size)).trans ((hb4.block _ (blk_lt X4.out)).trans X4.out))
    have X6 := Lib.hid (heap_alloc_new w4 (.cells #[.string a, .string b, .int .i64 n, .bool o] 25))
    clear hb4 hbx
    unfold tv
    go_wp2_with fail
    generalize (w4.alloc (.cells #[.string a, .string b, .int .i64 n, .bool o] 25)) = w5 at *
    generalize w4.heap.size = g6 at *
    have HB := Lib.hid (below_drew HB.out)
    have X4 := Lib.hid (show w5.drew.heap[g4]? = _ from X4.out)
    have X6 := Lib.hid (show w5.drew.heap[g6]? = _ from X6.out)
    refine start_ (n := 13) (S := fun w' => w'.cell? ⟨g4, 0, none⟩ = some (.string a) ∧ w'.cell? ⟨g4, 1, none⟩ = some (.string b) ∧ w'.cell? ⟨g4, 2, none⟩ = some (.int .i64 n) ∧ w'.cell? ⟨g4, 3, none⟩ = some (.bool o) ∧ w'.cell? ⟨g6, 0, none⟩ = some (.string a) ∧ w'.cell? ⟨g6, 1, none⟩ = some (.string b) ∧ w'.cell? ⟨g6, 2, none⟩ = some (.int .i64 n) ∧ w'.cell? ⟨g6, 3, none⟩ = some (.bool o)) (ds := []) #[false, false, false, false, false, false, false, false, false, false, false, false, false] (by kernel_rfl) rfl rfl ⟨(blk_cell X4.out 0).trans rfl, (blk_cell X4.out 1).trans rfl, (blk_cell X4.out 2).trans rfl, (blk_cell X4.out 3).trans rfl, (blk_cell X6.out 0).trans rfl, (blk_cell X6.out 1).trans rfl, (blk_cell X6.out 2).trans rfl, (blk_cell X6.out 3).trans rfl⟩ (fun hHeld => ?_)
    refine with_tabW tokenTakes.tab6 tokenTakes.bits6 (fun HT_ HW_ => ?_)
    refine pure_ (i := 0) (N := some 23) (v := ?_) (a' := ?_) #[true, false, false, false, false, false, false, false, false, false, false, false, false] rfl rfl (any_of HT_.out (by kernel_rfl)) (fun _ _ _ h => h) (Or.inl ⟨by rfl, ?_⟩) ?_ ?_
    rotate_left
    · intro w'
      go_simp
      with_reducible rfl
    rotate_left
    · simp only [Act.put, List.setIfInBounds_toArray, List.set_cons_zero, List.set_cons_succ, i64_w, i32_w]
      rfl
    refine pure_ (i := 1) (N := some 24) (v := ?_) (a' := ?_) #[true, true, false, false, false, false, false, false, false, false, false, false, false] rfl rfl (any_of HT_.out (by kernel_rfl)) (fun _ _ _ h => h) (Or.inl ⟨by rfl, ?_⟩) ?_ ?_
    rotate_left
    · intro w'
      go_simp
      with_reducible rfl
    rotate_left
    · simp only [Act.put, List.setIfInBounds_toArray, List.set_cons_zero, List.set_cons_succ, i64_w, i32_w]
      rfl
    refine take_ (i := 2) (N := some 25) (v := ?_) (a' := ?_) #[true, true, true, false, false, false, false, false, false, false, false, false, false] rfl rfl (take_ofW HT_.out HW_.out (by kernel_rfl)) (fun _ _ _ h => h) (Or.inl ⟨by rfl, ?_⟩) hHeld ?_ ?_
    rotate_left
    · rintro w' ⟨s0, s1, s2, s3, s4, s5, s6, s7⟩
      go_simp
      with_reducible rfl
    rotate_left
    · simp only [Act.put, List.setIfInBounds_toArray, List.set_cons_zero, List.set_cons_succ, i64_w, i32_w]
      rfl
    refine take_ (i := 3) (N := some 26) (v := ?_) (a' := ?_) #[true, true, true, true, false, false, false, false, false, false, false, false, false] rfl rfl (take_ofW HT_.out HW_.out (by kernel_rfl)) (fun _ _ _ h => h) (Or.inl ⟨by rfl, ?_⟩) hHeld ?_ ?_
    rotate_left
    · rintro w' ⟨s0, s1, s2, s3, s4, s5, s6, s7⟩
      go_simp
      with_reducible rfl
    rotate_left
    · simp only [Act.put, List.setIfInBounds_toArray, List.set_cons_zero, List.set_cons_succ, i64_w, i32_w]
      rfl
    refine one_ (i := 4) (N := some 27) #[true, true, true, true, true, false, false, false, false, false, false, false, false] rfl rfl (one_of HT_.out (by kernel_rfl)) (by decide) (fun K hK => ?_)
    refine goes_ Try.func11 (by kernel_rfl) rfl #[.agg #[.string a, .string b, .int .i64 n, .bool o]] (by rfl) rfl rfl (by simp only [List.map_toArray, List.map_cons, List.map_nil]; rfl) ?_
    with_reducible refine (impostlaw09_made.calls a b n o a b n o _ rfl).mono ?_
    rintro e w6 ⟨rfl, hb6⟩
    refine ⟨_, rfl, ?_⟩
    have HB := Lib.hid (HB.out.trans (hb6.mono HB.out.size))
    have X4 := Lib.hid ((hb6.block _ (blk_lt X4.out)).trans X4.out)
    have X6 := Lib.hid ((hb6.block _ (blk_lt X6.out)).trans X6.out)
    clear hb6
    refine hK.out _ _ ⟨(blk_cell X4.out 0).trans rfl, (blk_cell X4.out 1).trans rfl, (blk_cell X4.out 2).trans rfl, (blk_cell X4.out 3).trans rfl, (blk_cell X6.out 0).trans rfl, (blk_cell X6.out 1).trans rfl, (blk_cell X6.out 2).trans rfl, (blk_cell X6.out 3).trans rfl⟩ (fun hHeld => ?_)
    clear hK K
    refine norm_ (a' := ?_) ?_ ?_
    rotate_left
    · show Act.put _ (some 27) _ = _
      simp only [Act.put, List.setIfInBounds_toArray, List.set_cons_zero, List.set_cons_succ, i64_w, i32_w]
      rfl
    refine pure_ (i := 5) (N := some 28) (v := ?_) (a' := ?_) #[true, true, true, true, true, true, false, false, false, false, false, false, false] rfl rfl (any_of HT_.out (by kernel_rfl)) (fun _ _ _ h => h) (Or.inl ⟨by rfl, ?_⟩) ?_ ?_
    rotate_left
    · intro w'
      go_simp
      with_reducible rfl
    rotate_left
    · simp only [Act.put, List.setIfInBounds_toArray, List.set_cons_zero, List.set_cons_succ, i64_w, i32_w]
      rfl
    refine pure_ (i := 6) (N := some 29) (v := ?_) (a' := ?_) #[true, true, true, true, true, true, true, false, false, false, false, false, false] rfl rfl (any_of HT_.out (by kernel_rfl)) (fun _ _ _ h => h) (Or.inl ⟨by rfl, ?_⟩) ?_ ?_
    rotate_left
    · intro w'
      go_simp
      with_reducible rfl
    rotate_left
    · simp only [Act.put, List.setIfInBounds_toArray, List.set_cons_zero, List.set_cons_succ, i64_w, i32_w]
      rfl
    refine pure_ (i := 7) (N := some 30) (v := ?_) (a' := ?_) #[true, true, true, true, true, true, true, true, false, false, false, false, false] rfl rfl (any_of HT_.out (by kernel_rfl)) (fun _ _ _ h => h) (Or.inl ⟨by rfl, ?_⟩) ?_ ?_
    rotate_left
    · intro w'
      go_simp
      with_reducible rfl
    rotate_left
    · simp only [Act.put, List.setIfInBounds_toArray, List.set_cons_zero, List.set_cons_succ, i64_w, i32_w]
      rfl
    refine pure_ (i := 8) (N := some 31) (v := ?_) (a' := ?_) #[true, true, true, true, true, true, true, true, true, false, false, false, false] rfl rfl (any_of HT_.out (by kernel_rfl)) (fun _ _ _ h => h) (Or.inl ⟨by rfl, ?_⟩) ?_ ?_
    rotate_left
    · intro w'
      go_simp
      with_reducible rfl
    rotate_left
    · simp only [Act.put, List.setIfInBounds_toArray, List.set_cons_zero, List.set_cons_succ, i64_w, i32_w]
      rfl
    refine pure_ (i := 9) (N := some 32) (v := ?_) (a' := ?_) #[true, true, true, true, true, true, true, true, true, true, false, false, false] rfl rfl (any_of HT_.out (by kernel_rfl)) (fun _ _ _ h => h) (Or.inl ⟨by rfl, ?_⟩) ?_ ?_
    rotate_left
    · intro w'
      go_simp
      with_reducible rfl
    rotate_left
    · simp only [Act.put, List.setIfInBounds_toArray, List.set_cons_zero, List.set_cons_succ, i64_w, i32_w]
      rfl
    refine pure_ (i := 10) (N := some 33) (v := ?_) (a' := ?_) #[true, true, true, true, true, true, true, true, true, true, true, false, false] rfl rfl (any_of HT_.out (by kernel_rfl)) (fun _ _ _ h => h) (Or.inl ⟨by rfl, ?_⟩) ?_ ?_
    rotate_left
    · intro w'
      go_simp
      with_reducible rfl
    rotate_left
    · simp only [Act.put, List.setIfInBounds_toArray, List.set_cons_zero, List.set_cons_succ, i64_w, i32_w]
      rfl
    refine pure_ (i := 11) (N := some 34) (v := ?_) (a' := ?_) #[true, true, true, true, true, true, true, true, true, true, true, true, false] rfl rfl (any_of HT_.out (by kernel_rfl)) (fun _ _ _ h => h) (Or.inl ⟨by rfl, ?_⟩) ?_ ?_
    rotate_left
    · intro w'
      go_simp
      with_reducible rfl
    rotate_left
    · simp only [Act.put, List.setIfInBounds_toArray, List.set_cons_zero, List.set_cons_succ, i64_w, i32_w]
      rfl
    refine pure_ (i := 12) (N := some 2) (v := ?_) (a' := ?_) #[true, true, true, true, true, true, true, true, true, true, true, true, true] rfl rfl (any_of HT_.out (by kernel_rfl)) (fun _ _ _ h => h) (Or.inl ⟨by rfl, ?_⟩) ?_ ?_
    rotate_left
    · intro w'
      go_simp
      with_reducible rfl
    rotate_left
    · simp only [Act.put, List.setIfInBounds_toArray, List.set_cons_zero, List.set_cons_succ, i64_w, i32_w]
      rfl
    refine done_ (done_of HT_.out (by kernel_rfl)) ?_
    go_wp2
    go_ret
    exact ⟨rfl, HB.out⟩
end Go.Proofs.Ytecjkpjcmgohmaa.WalkTokenTakes
