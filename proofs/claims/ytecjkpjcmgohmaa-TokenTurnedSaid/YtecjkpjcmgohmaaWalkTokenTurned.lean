/- With another next revision, or kind, a token has other bytes; one that wants too much isn't one. No condition. -/
import Derived.Test.YtecjkpjcmgohmaaSt
import Derived.Lib.Hide
import Derived.Outline
namespace Go.Proofs.Ytecjkpjcmgohmaa.WalkTokenTurned
open Go Go.RowKit Go.Proofs.YtecjkpjcmgohmaaW.PrintWords Go.Proofs.YtecjkpjcmgohmaaW.PrintLast Go.Proofs.Ytecjkpjcmgohmaa.Q Go.Proofs.Ytecjkpjcmgohmaa.Str Go.Proofs.Ytecjkpjcmgohmaa.Sk Go.Proofs.Ytecjkpjcmgohmaa.St
set_option linter.unusedVariables false
set_option linter.unusedSimpArgs false

theorem call_may (a b : ByteArray) (n : Int) (o : Bool) (hb : b.size ≤ 9223372036854775807) (r : Bool) (h : decide (mayT a b n) = r) (w : World) : Calls Try.prog 10 #[.agg #[.string a, .string b, .int .i64 n, .bool o]] w fun e w' => e = .returned (.bool r) ∧ Below w.heap.size w w' :=
  token_May.calls a b n o r w (by rw [token_may a b n o hb, h])
theorem call_put (a b : ByteArray) (n : Int) (o : Bool) (hs : a.size + b.size + 5 ≤ 140737488355328) (hn : -9223372036854775808 ≤ n ∧ n ≤ 9223372036854775807) (r : ByteArray) (h : putB a b n o = r) (w : World) : Calls Try.prog 13 #[.agg #[.string a, .string b, .int .i64 n, .bool o]] w fun e w' => e = .returned (.string r) ∧ Below w.heap.size w w' :=
  token_Put.calls a b n o r w (by rw [token_put a b n o hs hn, h])

theorem box4 {w4 : World} {g6 : Nat} {x6 : Array Value} (h6 : w4.heap[g6]? = some (.cells x6 28 (0, 0))) (x7 x8 x9 : Array Value) :
    (((w4.alloc (.cells x7 28)).alloc (.cells x8 28)).alloc (.cells x9 28)).heap[g6]? = some (.cells x6 28 (0, 0)) ∧ (((w4.alloc (.cells x7 28)).alloc (.cells x8 28)).alloc (.cells x9 28)).heap[w4.heap.size]? = some (.cells x7 28 (0, 0)) ∧
    (((w4.alloc (.cells x7 28)).alloc (.cells x8 28)).alloc (.cells x9 28)).heap[w4.heap.size + 1]? = some (.cells x8 28 (0, 0)) ∧ (((w4.alloc (.cells x7 28)).alloc (.cells x8 28)).alloc (.cells x9 28)).heap[w4.heap.size + 1 + 1]? = some (.cells x9 28 (0, 0)) := by
  have hl := blk_lt h6
  have s1 : (w4.alloc (.cells x7 28)).heap.size = w4.heap.size + 1 := by simp
  have s2 : ((w4.alloc (.cells x7 28)).alloc (.cells x8 28)).heap.size = w4.heap.size + 1 + 1 := by simp
  have n9 := heap_alloc_new ((w4.alloc (.cells x7 28)).alloc (.cells x8 28)) (.cells x9 28)
  rw [s2] at n9
  have n8 := heap_alloc_new (w4.alloc (.cells x7 28)) (.cells x8 28)
  rw [s1] at n8
  have n7 := heap_alloc_new w4 (.cells x7 28)
  exact ⟨(heap_alloc_old _ _ (by omega)).trans ((heap_alloc_old _ _ (by omega)).trans ((heap_alloc_old _ _ hl).trans h6)), (heap_alloc_old _ _ (by omega)).trans ((heap_alloc_old _ _ (by omega)).trans n7), (heap_alloc_old _ _ (by omega)).trans n8, n9⟩
theorem bel3 {B : Nat} {w w4 : World} (h : Below B w w4) (hB : B ≤ w4.heap.size) (x7 x8 x9 : Array Value) : Below B w (((w4.alloc (.cells x7 28)).alloc (.cells x8 28)).alloc (.cells x9 28)) :=
  ((h.alloc hB _).alloc (by simp; omega) _).alloc (by simp; omega) _

def tokenTurned.T11 : Bool × List (List Nat × List Nat) := (true, [([], []), ([0], [0]), ([1], [1]), ([2, 1, 1], [1, 2]), ([1], [1]), ([4, 3, 1], [1, 4]), ([3, 5, 1], [1, 3, 5]), ([1], [1]), ([7, 1], [1, 7]), ([1], [1]), ([9, 1], [1, 9]), ([8, 10, 1], [1, 8, 10]), ([6, 11, 1], [1, 6, 11]), ([1, 12], [1, 12]), ([13, 5], [13]), ([14], [14]), ([15, 14, 14], [14, 15]), ([14], [14]), ([17, 16, 14], [14, 17]), ([16, 18, 14], [14, 16, 18]), ([14, 19], [14, 19]), ([20, 18], [20]), ([21], [21]), ([22, 21, 21], [21, 22]), ([23, 21], [21, 23]), ([21, 24], [21, 24]), ([25, 23], [25]), ([26], [26]), ([27, 26, 26], [26, 27]), ([26, 28], [26, 28]), ([29, 28], [29]), ([30], [30]), ([31, 30, 30], [30, 31]), ([30, 32], [30, 32]), ([33, 32, 0, 1, 2, 3, 4, 5, 6, 7, 8, 9, 10, 11, 12, 13, 14, 15, 16, 17, 18, 19, 20, 21, 22, 23, 24, 25, 26, 27, 28, 29, 30, 31, 32, 33], [33])])
def tokenTurned.B11 : List Nat := [0, 1, 3, 7, 3, 31, 63, 3, 131, 3, 515, 1923, 4095, 8191, 16383, 32767, 65535, 32767, 262143, 524287, 1048575, 2097151, 4194303, 8388607, 16777215, 33554431, 67108863, 134217727, 268435455, 536870911, 1073741823, 2147483647, 4294967295, 8589934591, 17179869183]
theorem tokenTurned.tab11 : rtab .any (opsOf Try.f8 11) = tokenTurned.T11 := by kernel_rfl
theorem tokenTurned.bits11 : waitsOk tokenTurned.T11.2 tokenTurned.B11 = true := by kernel_rfl
set_option maxHeartbeats 16000000 in
set_option maxRecDepth 100000 in
theorem walk (a b : ByteArray) (n : Int) (o : Bool) (m : Int) (ha : a.size ≤ 9223372036854775807) (hb : b.size ≤ 9223372036854775807) (hn : -9223372036854775808 ≤ n ∧ n ≤ 9223372036854775807) (hm : 0 ≤ m ∧ m ≤ 65535) (w : World) :
    Calls Try.prog 8 #[.agg #[.string a, .string b, .int .i64 n, .bool o], .int .u16 m] w fun e w' => e = .returned (.bool true) ∧ Below w.heap.size w w' := by
  have hb0 : Below w.heap.size w (w.alloc (.cells #[.string a, .string b, .int .i64 n, .bool o] 25)) := (Below.refl _ _).alloc (Nat.le_refl _) _
  have hx := heap_alloc_new w (.cells #[.string a, .string b, .int .i64 n, .bool o] 25)
  go_enter Try.func8, Try.ntmps8
  go_wp2_with fail
  refine (impostlaw09_awake.calls 3 true _ (awake_from 0)).mono ?_
  rintro e w1 ⟨rfl, hb1⟩
  have HB := Lib.hid (hb0.trans (hb1.mono hb0.size))
  have hx1 := (hb1.block w.heap.size (by simp)).trans hx
  have c0 : w1.cell? ⟨w.heap.size, 0, none⟩ = some (.string a) := (blk_cell hx1 0).trans rfl
  have c1 : w1.cell? ⟨w.heap.size, 1, none⟩ = some (.string b) := (blk_cell hx1 1).trans rfl
  have c2 : w1.cell? ⟨w.heap.size, 2, none⟩ = some (.int .i64 n) := (blk_cell hx1 2).trans rfl
  have c3 : w1.cell? ⟨w.heap.size, 3, none⟩ = some (.bool o) := (blk_cell hx1 3).trans rfl
  clear hb0 hx hb1 hx1
  go_wp2_with fail
  refine (impostlaw09_made.calls a b n o a b n o _ rfl).mono ?_
  rintro e w2 ⟨rfl, hb2⟩
  have HB := Lib.hid (HB.out.trans (hb2.mono HB.out.size))
  have hwl : w.heap.size ≤ w2.heap.size := HB.out.size
  have hx2 := heap_alloc_new w2 (.cells #[.string a, .string b, .int .i64 n, .bool o] 28)
  have hbx : Below w2.heap.size w2 (w2.alloc (.cells #[.string a, .string b, .int .i64 n, .bool o] 28)) := (Below.refl _ _).alloc (Nat.le_refl _) _
  have HB := Lib.hid (HB.out.trans (hbx.mono HB.out.size))
  have hl : w2.heap.size < (w2.alloc (.cells #[.string a, .string b, .int .i64 n, .bool o] 28)).heap.size := by simp
  clear hb2 hbx c0 c1 c2 c3
  go_wp2_with fail
  generalize (w2.alloc (.cells #[.string a, .string b, .int .i64 n, .bool o] 28)) = w3 at *
  generalize w2.heap.size = g6 at *
  by_cases hmay : mayT a b n
  · have hmay' := decide_eq_true hmay
    refine (call_may a b n o hb true hmay' w3).mono ?_
    rintro e w4 ⟨rfl, hb4⟩
    have HB := Lib.hid (HB.out.trans (hb4.mono HB.out.size))
    have hx4 := (hb4.block g6 hl).trans hx2
    have d0 : w4.cell? ⟨g6, 0, none⟩ = some (.string a) := (blk_cell hx4 0).trans rfl
    have d1 : w4.cell? ⟨g6, 1, none⟩ = some (.string b) := (blk_cell hx4 1).trans rfl
    have d2 : w4.cell? ⟨g6, 2, none⟩ = some (.int .i64 n) := (blk_cell hx4 2).trans rfl
    have d3 : w4.cell? ⟨g6, 3, none⟩ = some (.bool o) := (blk_cell hx4 3).trans rfl
    have hl4 : g6 < w4.heap.size := blk_lt hx4
    have X := box4 hx4 #[.string a, .string b, .int .i64 (1 + m % 1001), .bool o] #[.string a, .string b, .int .i64 n, .bool !o] #[.string a, .string b, .int .i64 (1002 + m), .bool o]
    have HBx := bel3 HB.out HB.out.size #[.string a, .string b, .int .i64 (1 + m % 1001), .bool o] #[.string a, .string b, .int .i64 n, .bool !o] #[.string a, .string b, .int .i64 (1002 + m), .bool o]
    have HBx := Lib.hid HBx
    have X := Lib.hid X
    clear hb4 hx2 hl hx4
    have hmay' := Lib.hid hmay'
    have hmay := Lib.hid hmay
    go_upto_region 11 with fail
    have hm9 := Lib.hid (show decide (mayT a b (1002 + m)) = false from decide_eq_false (fun h => by have := (may_size h).2.2.2; omega))
    have hm7 := Lib.hid (show decide (mayT a b (1 + m % 1001)) = true from decide_eq_true ⟨hmay.out.1, by omega, by omega⟩)
    have hm8 := Lib.hid (show decide (mayT a b n) = true from hmay'.out)
    have hs6 : a.size + b.size + 5 ≤ 140737488355328 := by have := may_size hmay.out; omega
    have hn6 := hn
    have hn7 : -9223372036854775808 ≤ 1 + m % 1001 ∧ 1 + m % 1001 ≤ 9223372036854775807 := by omega
    have hqn : (1 + m % 1001 = n ∧ putB a b n o = putB a b (1 + m % 1001) o) ∨ (1 + m % 1001 ≠ n ∧ putB a b n o ≠ putB a b (1 + m % 1001) o) := by
      by_cases e : 1 + m % 1001 = n
      · exact .inl ⟨e, by rw [e]⟩
      · exact .inr ⟨e, fun h => e (put_inj hmay.out (of_decide_eq_true hm7.out) h).2.2.1.symm⟩
    have hro : putB a b n (!o) ≠ putB a b n o := fun h => by
      have := (put_inj hmay.out hmay.out h).2.2.2
      cases o <;> cases this
    have hp0 : ∃ P, putB a b n o = P := ⟨_, rfl⟩
    have hq0 : ∃ P, putB a b (1 + m % 1001) o = P := ⟨_, rfl⟩
    have hr0 : ∃ P, putB a b n (!o) = P := ⟨_, rfl⟩
    obtain ⟨P, hP⟩ := hp0
    obtain ⟨Q, hQ⟩ := hq0
    obtain ⟨R, hR⟩ := hr0
    rw [hP, hQ] at hqn
    rw [hP, hR] at hro
    have hP := Lib.hid hP
    have hQ := Lib.hid hQ
    have hR := Lib.hid hR
    generalize (((w4.alloc (.cells #[.string a, .string b, .int .i64 (1 + m % 1001), .bool o] 28)).alloc (.cells #[.string a, .string b, .int .i64 n, .bool !o] 28)).alloc (.cells #[.string a, .string b, .int .i64 (1002 + m), .bool o] 28)) = w5 at *
    generalize w4.heap.size = g7 at *
    generalize (1 + m % 1001) = q at *
    generalize (!o) = p at *
    obtain ⟨X6, X7, X8, X9⟩ := X.out
    have HB := Lib.hid (below_drew HBx.out)
    have X6 := Lib.hid (show w5.drew.heap[g6]? = _ from X6)
    have X7 := Lib.hid (show w5.drew.heap[g7]? = _ from X7)
    have X8 := Lib.hid (show w5.drew.heap[g7 + 1]? = _ from X8)
    have X9 := Lib.hid (show w5.drew.heap[g7 + 1 + 1]? = _ from X9)
    have r1 : (R.toList == P.toList) = false := by simpa [toL] using fun h => hro (ext_list h)
    have r2 : (R.toList != P.toList) = true := by rw [bne, r1]; rfl
    have hW : ∃ v : Bool, (P.toList == Q.toList) = v ∧ (q == n) = v := by
      rcases hqn with ⟨e, e2⟩ | ⟨e, e2⟩
      · exact ⟨true, by rw [e2]; simp, by rw [e]; simp⟩
      · exact ⟨false, by simpa [toL] using fun h => e2 (ext_list h), by simpa using e⟩
    clear HBx X d0 d1 d2 d3 hmay hmay' hqn hro
    obtain ⟨v, e1, e2⟩ := hW
    go_wp2_with fail
    cases v
    all_goals
      refine start_ (n := 35) (S := fun w' => w'.cell? ⟨g6, 0, none⟩ = some (.string a) ∧ w'.cell? ⟨g6, 1, none⟩ = some (.string b) ∧ w'.cell? ⟨g6, 2, none⟩ = some (.int .i64 n) ∧ w'.cell? ⟨g6, 3, none⟩ = some (.bool o) ∧ w'.cell? ⟨g7, 0, none⟩ = some (.string a) ∧ w'.cell? ⟨g7, 1, none⟩ = some (.string b) ∧ w'.cell? ⟨g7, 2, none⟩ = some (.int .i64 q) ∧ w'.cell? ⟨g7, 3, none⟩ = some (.bool o) ∧ w'.cell? ⟨(g7 + 1), 0, none⟩ = some (.string a) ∧ w'.cell? ⟨(g7 + 1), 1, none⟩ = some (.string b) ∧ w'.cell? ⟨(g7 + 1), 2, none⟩ = some (.int .i64 n) ∧ w'.cell? ⟨(g7 + 1), 3, none⟩ = some (.bool p) ∧ w'.cell? ⟨(g7 + 1 + 1), 0, none⟩ = some (.string a) ∧ w'.cell? ⟨(g7 + 1 + 1), 1, none⟩ = some (.string b) ∧ w'.cell? ⟨(g7 + 1 + 1), 2, none⟩ = some (.int .i64 (1002 + m)) ∧ w'.cell? ⟨(g7 + 1 + 1), 3, none⟩ = some (.bool o)) (ds := []) #[false, false, false, false, false, false, false, false, false, false, false, false, false, false, false, false, false, false, false, false, false, false, false, false, false, false, false, false, false, false, false, false, false, false, false] (by kernel_rfl) rfl rfl ⟨(blk_cell X6.out 0).trans rfl, (blk_cell X6.out 1).trans rfl, (blk_cell X6.out 2).trans rfl, (blk_cell X6.out 3).trans rfl, (blk_cell X7.out 0).trans rfl, (blk_cell X7.out 1).trans rfl, (blk_cell X7.out 2).trans rfl, (blk_cell X7.out 3).trans rfl, (blk_cell X8.out 0).trans rfl, (blk_cell X8.out 1).trans rfl, (blk_cell X8.out 2).trans rfl, (blk_cell X8.out 3).trans rfl, (blk_cell X9.out 0).trans rfl, (blk_cell X9.out 1).trans rfl, (blk_cell X9.out 2).trans rfl, (blk_cell X9.out 3).trans rfl⟩ (fun hHeld => ?_)
      refine with_tabW tokenTurned.tab11 tokenTurned.bits11 (fun HT_ HW_ => ?_)
      refine pure_ (i := 0) (N := some 33) (v := ?_) (a' := ?_) #[true, false, false, false, false, false, false, false, false, false, false, false, false, false, false, false, false, false, false, false, false, false, false, false, false, false, false, false, false, false, false, false, false, false, false] rfl rfl (any_of HT_.out (by kernel_rfl)) (fun _ _ _ h => h) (Or.inl ⟨by rfl, ?_⟩) ?_ ?_
      rotate_left
      · intro w'
        go_simp
        with_reducible rfl
      rotate_left
      · simp only [Act.put, List.setIfInBounds_toArray, List.set_cons_zero, List.set_cons_succ, i64_w, i32_w]
        rfl
      refine pure_ (i := 1) (N := some 34) (v := ?_) (a' := ?_) #[true, true, false, false, false, false, false, false, false, false, false, false, false, false, false, false, false, false, false, false, false, false, false, false, false, false, false, false, false, false, false, false, false, false, false] rfl rfl (any_of HT_.out (by kernel_rfl)) (fun _ _ _ h => h) (Or.inl ⟨by rfl, ?_⟩) ?_ ?_
      rotate_left
      · intro w'
        go_simp
        with_reducible rfl
      rotate_left
      · simp only [Act.put, List.setIfInBounds_toArray, List.set_cons_zero, List.set_cons_succ, i64_w, i32_w]
        rfl
      refine pure_ (i := 7) (N := some 40) (v := ?_) (a' := ?_) #[true, true, false, false, false, false, false, true, false, false, false, false, false, false, false, false, false, false, false, false, false, false, false, false, false, false, false, false, false, false, false, false, false, false, false] rfl rfl (any_of HT_.out (by kernel_rfl)) (fun _ _ _ h => h) (Or.inl ⟨by rfl, ?_⟩) ?_ ?_
      rotate_left
      · intro w'
        go_simp
        with_reducible rfl
      rotate_left
      · simp only [Act.put, List.setIfInBounds_toArray, List.set_cons_zero, List.set_cons_succ, i64_w, i32_w]
        rfl
      refine pure_ (i := 9) (N := some 42) (v := ?_) (a' := ?_) #[true, true, false, false, false, false, false, true, false, true, false, false, false, false, false, false, false, false, false, false, false, false, false, false, false, false, false, false, false, false, false, false, false, false, false] rfl rfl (any_of HT_.out (by kernel_rfl)) (fun _ _ _ h => h) (Or.inl ⟨by rfl, ?_⟩) ?_ ?_
      rotate_left
      · intro w'
        go_simp
        with_reducible rfl
      rotate_left
      · simp only [Act.put, List.setIfInBounds_toArray, List.set_cons_zero, List.set_cons_succ, i64_w, i32_w]
        rfl
      refine take_ (i := 2) (N := some 35) (v := ?_) (a' := ?_) #[true, true, true, false, false, false, false, true, false, true, false, false, false, false, false, false, false, false, false, false, false, false, false, false, false, false, false, false, false, false, false, false, false, false, false] rfl rfl (take_ofW HT_.out HW_.out (by kernel_rfl)) (fun _ _ _ h => h) (Or.inl ⟨by rfl, ?_⟩) hHeld ?_ ?_
      rotate_left
      · rintro w' ⟨s0, s1, s2, s3, s4, s5, s6, s7, s8, s9, s10, s11, s12, s13, s14, s15⟩
        go_simp
        with_reducible rfl
      rotate_left
      · simp only [Act.put, List.setIfInBounds_toArray, List.set_cons_zero, List.set_cons_succ, i64_w, i32_w]
        rfl
      refine take_ (i := 4) (N := some 37) (v := ?_) (a' := ?_) #[true, true, true, false, true, false, false, true, false, true, false, false, false, false, false, false, false, false, false, false, false, false, false, false, false, false, false, false, false, false, false, false, false, false, false] rfl rfl (take_ofW HT_.out HW_.out (by kernel_rfl)) (fun _ _ _ h => h) (Or.inl ⟨by rfl, ?_⟩) hHeld ?_ ?_
      rotate_left
      · rintro w' ⟨s0, s1, s2, s3, s4, s5, s6, s7, s8, s9, s10, s11, s12, s13, s14, s15⟩
        go_simp
        with_reducible rfl
      rotate_left
      · simp only [Act.put, List.setIfInBounds_toArray, List.set_cons_zero, List.set_cons_succ, i64_w, i32_w]
        rfl
      refine take_ (i := 8) (N := some 41) (v := ?_) (a' := ?_) #[true, true, true, false, true, false, false, true, true, true, false, false, false, false, false, false, false, false, false, false, false, false, false, false, false, false, false, false, false, false, false, false, false, false, false] rfl rfl (take_ofW HT_.out HW_.out (by kernel_rfl)) (fun _ _ _ h => h) (Or.inl ⟨by rfl, ?_⟩) hHeld ?_ ?_
      rotate_left
      · rintro w' ⟨s0, s1, s2, s3, s4, s5, s6, s7, s8, s9, s10, s11, s12, s13, s14, s15⟩
        go_simp
        with_reducible rfl
      rotate_left
      · simp only [Act.put, List.setIfInBounds_toArray, List.set_cons_zero, List.set_cons_succ, i64_w, i32_w]
        rfl
      refine take_ (i := 10) (N := some 43) (v := ?_) (a' := ?_) #[true, true, true, false, true, false, false, true, true, true, true, false, false, false, false, false, false, false, false, false, false, false, false, false, false, false, false, false, false, false, false, false, false, false, false] rfl rfl (take_ofW HT_.out HW_.out (by kernel_rfl)) (fun _ _ _ h => h) (Or.inl ⟨by rfl, ?_⟩) hHeld ?_ ?_
      rotate_left
      · rintro w' ⟨s0, s1, s2, s3, s4, s5, s6, s7, s8, s9, s10, s11, s12, s13, s14, s15⟩
        go_simp
        with_reducible rfl
      rotate_left
      · simp only [Act.put, List.setIfInBounds_toArray, List.set_cons_zero, List.set_cons_succ, i64_w, i32_w]
        rfl
      refine pure_ (i := 11) (N := some 44) (v := ?_) (a' := ?_) #[true, true, true, false, true, false, false, true, true, true, true, true, false, false, false, false, false, false, false, false, false, false, false, false, false, false, false, false, false, false, false, false, false, false, false] rfl rfl (any_of HT_.out (by kernel_rfl)) (fun _ _ _ h => h) (Or.inl ⟨by rfl, ?_⟩) ?_ ?_
      rotate_left
      · intro w'
        go_simp
        with_reducible rfl
      rotate_left
      · simp only [Act.put, List.setIfInBounds_toArray, List.set_cons_zero, List.set_cons_succ, i64_w, i32_w]
        rfl
      refine one_ (i := 3) (N := some 36) #[true, true, true, true, true, false, false, true, true, true, true, true, false, false, false, false, false, false, false, false, false, false, false, false, false, false, false, false, false, false, false, false, false, false, false] rfl rfl (one_of HT_.out (by kernel_rfl)) (by decide) (fun K hK => ?_)
      refine goes_ Try.func13 (by kernel_rfl) rfl #[.agg #[.string a, .string b, .int .i64 n, .bool o]] (by rfl) rfl rfl (by simp only [List.map_toArray, List.map_cons, List.map_nil]; rfl) ?_
      with_reducible refine (call_put a b n o hs6 hn6 _ hP.out _).mono ?_
      rintro e w6 ⟨rfl, hb6⟩
      refine ⟨_, rfl, ?_⟩
      have HB := Lib.hid (HB.out.trans (hb6.mono HB.out.size))
      have X6 := Lib.hid ((hb6.block _ (blk_lt X6.out)).trans X6.out)
      have X7 := Lib.hid ((hb6.block _ (blk_lt X7.out)).trans X7.out)
      have X8 := Lib.hid ((hb6.block _ (blk_lt X8.out)).trans X8.out)
      have X9 := Lib.hid ((hb6.block _ (blk_lt X9.out)).trans X9.out)
      clear hb6
      refine hK.out _ _ ⟨(blk_cell X6.out 0).trans rfl, (blk_cell X6.out 1).trans rfl, (blk_cell X6.out 2).trans rfl, (blk_cell X6.out 3).trans rfl, (blk_cell X7.out 0).trans rfl, (blk_cell X7.out 1).trans rfl, (blk_cell X7.out 2).trans rfl, (blk_cell X7.out 3).trans rfl, (blk_cell X8.out 0).trans rfl, (blk_cell X8.out 1).trans rfl, (blk_cell X8.out 2).trans rfl, (blk_cell X8.out 3).trans rfl, (blk_cell X9.out 0).trans rfl, (blk_cell X9.out 1).trans rfl, (blk_cell X9.out 2).trans rfl, (blk_cell X9.out 3).trans rfl⟩ (fun hHeld => ?_)
      clear hK K
      refine norm_ (a' := ?_) ?_ ?_
      rotate_left
      · show Act.put _ (some 36) _ = _
        simp only [Act.put, List.setIfInBounds_toArray, List.set_cons_zero, List.set_cons_succ, i64_w, i32_w]
        rfl
      refine one_ (i := 5) (N := some 38) #[true, true, true, true, true, true, false, true, true, true, true, true, false, false, false, false, false, false, false, false, false, false, false, false, false, false, false, false, false, false, false, false, false, false, false] rfl rfl (one_of HT_.out (by kernel_rfl)) (by decide) (fun K hK => ?_)
      refine goes_ Try.func13 (by kernel_rfl) rfl #[.agg #[.string a, .string b, .int .i64 q, .bool o]] (by rfl) rfl rfl (by simp only [List.map_toArray, List.map_cons, List.map_nil]; rfl) ?_
      with_reducible refine (call_put a b q o hs6 hn7 _ hQ.out _).mono ?_
      rintro e w6 ⟨rfl, hb6⟩
      refine ⟨_, rfl, ?_⟩
      have HB := Lib.hid (HB.out.trans (hb6.mono HB.out.size))
      have X6 := Lib.hid ((hb6.block _ (blk_lt X6.out)).trans X6.out)
      have X7 := Lib.hid ((hb6.block _ (blk_lt X7.out)).trans X7.out)
      have X8 := Lib.hid ((hb6.block _ (blk_lt X8.out)).trans X8.out)
      have X9 := Lib.hid ((hb6.block _ (blk_lt X9.out)).trans X9.out)
      clear hb6
      refine hK.out _ _ ⟨(blk_cell X6.out 0).trans rfl, (blk_cell X6.out 1).trans rfl, (blk_cell X6.out 2).trans rfl, (blk_cell X6.out 3).trans rfl, (blk_cell X7.out 0).trans rfl, (blk_cell X7.out 1).trans rfl, (blk_cell X7.out 2).trans rfl, (blk_cell X7.out 3).trans rfl, (blk_cell X8.out 0).trans rfl, (blk_cell X8.out 1).trans rfl, (blk_cell X8.out 2).trans rfl, (blk_cell X8.out 3).trans rfl, (blk_cell X9.out 0).trans rfl, (blk_cell X9.out 1).trans rfl, (blk_cell X9.out 2).trans rfl, (blk_cell X9.out 3).trans rfl⟩ (fun hHeld => ?_)
      clear hK K
      refine norm_ (a' := ?_) ?_ ?_
      rotate_left
      · show Act.put _ (some 38) _ = _
        simp only [Act.put, List.setIfInBounds_toArray, List.set_cons_zero, List.set_cons_succ, i64_w, i32_w]
        rfl
      refine pure_ (i := 6) (N := some 39) (v := ?_) (a' := ?_) #[true, true, true, true, true, true, true, true, true, true, true, true, false, false, false, false, false, false, false, false, false, false, false, false, false, false, false, false, false, false, false, false, false, false, false] rfl rfl (any_of HT_.out (by kernel_rfl)) (fun _ _ _ h => h) (Or.inl ⟨by rfl, ?_⟩) ?_ ?_
      rotate_left
      · intro w'
        go_simp
        with_reducible rfl
      rotate_left
      · simp only [Act.put, List.setIfInBounds_toArray, List.set_cons_zero, List.set_cons_succ, i64_w, i32_w]
        rfl
      refine pure_ (i := 12) (N := some 45) (v := ?_) (a' := ?_) #[true, true, true, true, true, true, true, true, true, true, true, true, true, false, false, false, false, false, false, false, false, false, false, false, false, false, false, false, false, false, false, false, false, false, false] rfl rfl (any_of HT_.out (by kernel_rfl)) (fun _ _ _ h => h) (Or.inl ⟨by rfl, ?_⟩) ?_ ?_
      rotate_left
      · intro w'
        go_simp
        with_reducible rfl
      rotate_left
      · simp only [Act.put, List.setIfInBounds_toArray, List.set_cons_zero, List.set_cons_succ, i64_w, i32_w]
        rfl
      refine pure_ (i := 13) (N := some 46) (v := ?_) (a' := ?_) #[true, true, true, true, true, true, true, true, true, true, true, true, true, true, false, false, false, false, false, false, false, false, false, false, false, false, false, false, false, false, false, false, false, false, false] rfl rfl (any_of HT_.out (by kernel_rfl)) (fun _ _ _ h => h) (Or.inl ⟨by rfl, ?_⟩) ?_ ?_
      rotate_left
      · intro w'
        go_simp
        with_reducible rfl
      rotate_left
      · simp only [Act.put, List.setIfInBounds_toArray, List.set_cons_zero, List.set_cons_succ, i64_w, i32_w]
        rfl
      refine pure_ (i := 14) (N := some 47) (v := ?_) (a' := ?_) #[true, true, true, true, true, true, true, true, true, true, true, true, true, true, true, false, false, false, false, false, false, false, false, false, false, false, false, false, false, false, false, false, false, false, false] rfl rfl (any_of HT_.out (by kernel_rfl)) (fun _ _ _ h => h) (Or.inl ⟨by rfl, ?_⟩) ?_ ?_
      rotate_left
      · intro w'
        go_simp
        with_reducible rfl
      rotate_left
      · simp only [Act.put, List.setIfInBounds_toArray, List.set_cons_zero, List.set_cons_succ, i64_w, i32_w]
        rfl
      refine take_ (i := 15) (N := some 48) (v := ?_) (a' := ?_) #[true, true, true, true, true, true, true, true, true, true, true, true, true, true, true, true, false, false, false, false, false, false, false, false, false, false, false, false, false, false, false, false, false, false, false] rfl rfl (take_ofW HT_.out HW_.out (by kernel_rfl)) (fun _ _ _ h => h) (Or.inl ⟨by rfl, ?_⟩) hHeld ?_ ?_
      rotate_left
      · rintro w' ⟨s0, s1, s2, s3, s4, s5, s6, s7, s8, s9, s10, s11, s12, s13, s14, s15⟩
        go_simp
        with_reducible rfl
      rotate_left
      · simp only [Act.put, List.setIfInBounds_toArray, List.set_cons_zero, List.set_cons_succ, i64_w, i32_w]
        rfl
      refine take_ (i := 17) (N := some 50) (v := ?_) (a' := ?_) #[true, true, true, true, true, true, true, true, true, true, true, true, true, true, true, true, false, true, false, false, false, false, false, false, false, false, false, false, false, false, false, false, false, false, false] rfl rfl (take_ofW HT_.out HW_.out (by kernel_rfl)) (fun _ _ _ h => h) (Or.inl ⟨by rfl, ?_⟩) hHeld ?_ ?_
      rotate_left
      · rintro w' ⟨s0, s1, s2, s3, s4, s5, s6, s7, s8, s9, s10, s11, s12, s13, s14, s15⟩
        go_simp
        with_reducible rfl
      rotate_left
      · simp only [Act.put, List.setIfInBounds_toArray, List.set_cons_zero, List.set_cons_succ, i64_w, i32_w]
        rfl
      refine one_ (i := 16) (N := some 49) #[true, true, true, true, true, true, true, true, true, true, true, true, true, true, true, true, true, true, false, false, false, false, false, false, false, false, false, false, false, false, false, false, false, false, false] rfl rfl (one_of HT_.out (by kernel_rfl)) (by decide) (fun K hK => ?_)
      refine goes_ Try.func13 (by kernel_rfl) rfl #[.agg #[.string a, .string b, .int .i64 n, .bool p]] (by rfl) rfl rfl (by simp only [List.map_toArray, List.map_cons, List.map_nil]; rfl) ?_
      with_reducible refine (call_put a b n p hs6 hn6 _ hR.out _).mono ?_
      rintro e w6 ⟨rfl, hb6⟩
      refine ⟨_, rfl, ?_⟩
      have HB := Lib.hid (HB.out.trans (hb6.mono HB.out.size))
      have X6 := Lib.hid ((hb6.block _ (blk_lt X6.out)).trans X6.out)
      have X7 := Lib.hid ((hb6.block _ (blk_lt X7.out)).trans X7.out)
      have X8 := Lib.hid ((hb6.block _ (blk_lt X8.out)).trans X8.out)
      have X9 := Lib.hid ((hb6.block _ (blk_lt X9.out)).trans X9.out)
      clear hb6
      refine hK.out _ _ ⟨(blk_cell X6.out 0).trans rfl, (blk_cell X6.out 1).trans rfl, (blk_cell X6.out 2).trans rfl, (blk_cell X6.out 3).trans rfl, (blk_cell X7.out 0).trans rfl, (blk_cell X7.out 1).trans rfl, (blk_cell X7.out 2).trans rfl, (blk_cell X7.out 3).trans rfl, (blk_cell X8.out 0).trans rfl, (blk_cell X8.out 1).trans rfl, (blk_cell X8.out 2).trans rfl, (blk_cell X8.out 3).trans rfl, (blk_cell X9.out 0).trans rfl, (blk_cell X9.out 1).trans rfl, (blk_cell X9.out 2).trans rfl, (blk_cell X9.out 3).trans rfl⟩ (fun hHeld => ?_)
      clear hK K
      refine norm_ (a' := ?_) ?_ ?_
      rotate_left
      · show Act.put _ (some 49) _ = _
        simp only [Act.put, List.setIfInBounds_toArray, List.set_cons_zero, List.set_cons_succ, i64_w, i32_w]
        rfl
      refine one_ (i := 18) (N := some 51) #[true, true, true, true, true, true, true, true, true, true, true, true, true, true, true, true, true, true, true, false, false, false, false, false, false, false, false, false, false, false, false, false, false, false, false] rfl rfl (one_of HT_.out (by kernel_rfl)) (by decide) (fun K hK => ?_)
      refine goes_ Try.func13 (by kernel_rfl) rfl #[.agg #[.string a, .string b, .int .i64 n, .bool o]] (by rfl) rfl rfl (by simp only [List.map_toArray, List.map_cons, List.map_nil]; rfl) ?_
      with_reducible refine (call_put a b n o hs6 hn6 _ hP.out _).mono ?_
      rintro e w6 ⟨rfl, hb6⟩
      refine ⟨_, rfl, ?_⟩
      have HB := Lib.hid (HB.out.trans (hb6.mono HB.out.size))
      have X6 := Lib.hid ((hb6.block _ (blk_lt X6.out)).trans X6.out)
      have X7 := Lib.hid ((hb6.block _ (blk_lt X7.out)).trans X7.out)
      have X8 := Lib.hid ((hb6.block _ (blk_lt X8.out)).trans X8.out)
      have X9 := Lib.hid ((hb6.block _ (blk_lt X9.out)).trans X9.out)
      clear hb6
      refine hK.out _ _ ⟨(blk_cell X6.out 0).trans rfl, (blk_cell X6.out 1).trans rfl, (blk_cell X6.out 2).trans rfl, (blk_cell X6.out 3).trans rfl, (blk_cell X7.out 0).trans rfl, (blk_cell X7.out 1).trans rfl, (blk_cell X7.out 2).trans rfl, (blk_cell X7.out 3).trans rfl, (blk_cell X8.out 0).trans rfl, (blk_cell X8.out 1).trans rfl, (blk_cell X8.out 2).trans rfl, (blk_cell X8.out 3).trans rfl, (blk_cell X9.out 0).trans rfl, (blk_cell X9.out 1).trans rfl, (blk_cell X9.out 2).trans rfl, (blk_cell X9.out 3).trans rfl⟩ (fun hHeld => ?_)
      clear hK K
      refine norm_ (a' := ?_) ?_ ?_
      rotate_left
      · show Act.put _ (some 51) _ = _
        simp only [Act.put, List.setIfInBounds_toArray, List.set_cons_zero, List.set_cons_succ, i64_w, i32_w]
        rfl
      refine pure_ (i := 19) (N := some 52) (v := ?_) (a' := ?_) #[true, true, true, true, true, true, true, true, true, true, true, true, true, true, true, true, true, true, true, true, false, false, false, false, false, false, false, false, false, false, false, false, false, false, false] rfl rfl (any_of HT_.out (by kernel_rfl)) (fun _ _ _ h => h) (Or.inl ⟨by rfl, ?_⟩) ?_ ?_
      rotate_left
      · intro w'
        go_simp
        with_reducible rfl
      rotate_left
      · simp only [Act.put, List.setIfInBounds_toArray, List.set_cons_zero, List.set_cons_succ, i64_w, i32_w]
        rfl
      refine pure_ (i := 20) (N := some 53) (v := ?_) (a' := ?_) #[true, true, true, true, true, true, true, true, true, true, true, true, true, true, true, true, true, true, true, true, true, false, false, false, false, false, false, false, false, false, false, false, false, false, false] rfl rfl (any_of HT_.out (by kernel_rfl)) (fun _ _ _ h => h) (Or.inl ⟨by rfl, ?_⟩) ?_ ?_
      rotate_left
      · intro w'
        go_simp
        with_reducible rfl
      rotate_left
      · simp only [Act.put, List.setIfInBounds_toArray, List.set_cons_zero, List.set_cons_succ, i64_w, i32_w]
        rfl
      refine pure_ (i := 21) (N := some 54) (v := ?_) (a' := ?_) #[true, true, true, true, true, true, true, true, true, true, true, true, true, true, true, true, true, true, true, true, true, true, false, false, false, false, false, false, false, false, false, false, false, false, false] rfl rfl (any_of HT_.out (by kernel_rfl)) (fun _ _ _ h => h) (Or.inl ⟨by rfl, ?_⟩) ?_ ?_
      rotate_left
      · intro w'
        go_simp
        with_reducible rfl
      rotate_left
      · simp only [Act.put, List.setIfInBounds_toArray, List.set_cons_zero, List.set_cons_succ, i64_w, i32_w]
        rfl
      refine take_ (i := 22) (N := some 55) (v := ?_) (a' := ?_) #[true, true, true, true, true, true, true, true, true, true, true, true, true, true, true, true, true, true, true, true, true, true, true, false, false, false, false, false, false, false, false, false, false, false, false] rfl rfl (take_ofW HT_.out HW_.out (by kernel_rfl)) (fun _ _ _ h => h) (Or.inl ⟨by rfl, ?_⟩) hHeld ?_ ?_
      rotate_left
      · rintro w' ⟨s0, s1, s2, s3, s4, s5, s6, s7, s8, s9, s10, s11, s12, s13, s14, s15⟩
        go_simp
        with_reducible rfl
      rotate_left
      · simp only [Act.put, List.setIfInBounds_toArray, List.set_cons_zero, List.set_cons_succ, i64_w, i32_w]
        rfl
      refine one_ (i := 23) (N := some 56) #[true, true, true, true, true, true, true, true, true, true, true, true, true, true, true, true, true, true, true, true, true, true, true, true, false, false, false, false, false, false, false, false, false, false, false] rfl rfl (one_of HT_.out (by kernel_rfl)) (by decide) (fun K hK => ?_)
      refine goes_ Try.func10 (by kernel_rfl) rfl #[.agg #[.string a, .string b, .int .i64 (1002 + m), .bool o]] (by rfl) rfl rfl (by simp only [List.map_toArray, List.map_cons, List.map_nil]; rfl) ?_
      with_reducible refine (call_may a b (1002 + m) o hb _ hm9.out _).mono ?_
      rintro e w6 ⟨rfl, hb6⟩
      refine ⟨_, rfl, ?_⟩
      have HB := Lib.hid (HB.out.trans (hb6.mono HB.out.size))
      have X6 := Lib.hid ((hb6.block _ (blk_lt X6.out)).trans X6.out)
      have X7 := Lib.hid ((hb6.block _ (blk_lt X7.out)).trans X7.out)
      have X8 := Lib.hid ((hb6.block _ (blk_lt X8.out)).trans X8.out)
      have X9 := Lib.hid ((hb6.block _ (blk_lt X9.out)).trans X9.out)
      clear hb6
      refine hK.out _ _ ⟨(blk_cell X6.out 0).trans rfl, (blk_cell X6.out 1).trans rfl, (blk_cell X6.out 2).trans rfl, (blk_cell X6.out 3).trans rfl, (blk_cell X7.out 0).trans rfl, (blk_cell X7.out 1).trans rfl, (blk_cell X7.out 2).trans rfl, (blk_cell X7.out 3).trans rfl, (blk_cell X8.out 0).trans rfl, (blk_cell X8.out 1).trans rfl, (blk_cell X8.out 2).trans rfl, (blk_cell X8.out 3).trans rfl, (blk_cell X9.out 0).trans rfl, (blk_cell X9.out 1).trans rfl, (blk_cell X9.out 2).trans rfl, (blk_cell X9.out 3).trans rfl⟩ (fun hHeld => ?_)
      clear hK K
      refine norm_ (a' := ?_) ?_ ?_
      rotate_left
      · show Act.put _ (some 56) _ = _
        simp only [Act.put, List.setIfInBounds_toArray, List.set_cons_zero, List.set_cons_succ, i64_w, i32_w]
        rfl
      refine pure_ (i := 24) (N := some 57) (v := ?_) (a' := ?_) #[true, true, true, true, true, true, true, true, true, true, true, true, true, true, true, true, true, true, true, true, true, true, true, true, true, false, false, false, false, false, false, false, false, false, false] rfl rfl (any_of HT_.out (by kernel_rfl)) (fun _ _ _ h => h) (Or.inl ⟨by rfl, ?_⟩) ?_ ?_
      rotate_left
      · intro w'
        go_simp
        with_reducible rfl
      rotate_left
      · simp only [Act.put, List.setIfInBounds_toArray, List.set_cons_zero, List.set_cons_succ, i64_w, i32_w]
        rfl
      refine pure_ (i := 25) (N := some 58) (v := ?_) (a' := ?_) #[true, true, true, true, true, true, true, true, true, true, true, true, true, true, true, true, true, true, true, true, true, true, true, true, true, true, false, false, false, false, false, false, false, false, false] rfl rfl (any_of HT_.out (by kernel_rfl)) (fun _ _ _ h => h) (Or.inl ⟨by rfl, ?_⟩) ?_ ?_
      rotate_left
      · intro w'
        go_simp
        with_reducible rfl
      rotate_left
      · simp only [Act.put, List.setIfInBounds_toArray, List.set_cons_zero, List.set_cons_succ, i64_w, i32_w]
        rfl
      refine pure_ (i := 26) (N := some 59) (v := ?_) (a' := ?_) #[true, true, true, true, true, true, true, true, true, true, true, true, true, true, true, true, true, true, true, true, true, true, true, true, true, true, true, false, false, false, false, false, false, false, false] rfl rfl (any_of HT_.out (by kernel_rfl)) (fun _ _ _ h => h) (Or.inl ⟨by rfl, ?_⟩) ?_ ?_
      rotate_left
      · intro w'
        go_simp
        with_reducible rfl
      rotate_left
      · simp only [Act.put, List.setIfInBounds_toArray, List.set_cons_zero, List.set_cons_succ, i64_w, i32_w]
        rfl
      refine take_ (i := 27) (N := some 60) (v := ?_) (a' := ?_) #[true, true, true, true, true, true, true, true, true, true, true, true, true, true, true, true, true, true, true, true, true, true, true, true, true, true, true, true, false, false, false, false, false, false, false] rfl rfl (take_ofW HT_.out HW_.out (by kernel_rfl)) (fun _ _ _ h => h) (Or.inl ⟨by rfl, ?_⟩) hHeld ?_ ?_
      rotate_left
      · rintro w' ⟨s0, s1, s2, s3, s4, s5, s6, s7, s8, s9, s10, s11, s12, s13, s14, s15⟩
        go_simp
        with_reducible rfl
      rotate_left
      · simp only [Act.put, List.setIfInBounds_toArray, List.set_cons_zero, List.set_cons_succ, i64_w, i32_w]
        rfl
      refine one_ (i := 28) (N := some 61) #[true, true, true, true, true, true, true, true, true, true, true, true, true, true, true, true, true, true, true, true, true, true, true, true, true, true, true, true, true, false, false, false, false, false, false] rfl rfl (one_of HT_.out (by kernel_rfl)) (by decide) (fun K hK => ?_)
      refine goes_ Try.func10 (by kernel_rfl) rfl #[.agg #[.string a, .string b, .int .i64 q, .bool o]] (by rfl) rfl rfl (by simp only [List.map_toArray, List.map_cons, List.map_nil]; rfl) ?_
      with_reducible refine (call_may a b q o hb _ hm7.out _).mono ?_
      rintro e w6 ⟨rfl, hb6⟩
      refine ⟨_, rfl, ?_⟩
      have HB := Lib.hid (HB.out.trans (hb6.mono HB.out.size))
      have X6 := Lib.hid ((hb6.block _ (blk_lt X6.out)).trans X6.out)
      have X7 := Lib.hid ((hb6.block _ (blk_lt X7.out)).trans X7.out)
      have X8 := Lib.hid ((hb6.block _ (blk_lt X8.out)).trans X8.out)
      have X9 := Lib.hid ((hb6.block _ (blk_lt X9.out)).trans X9.out)
      clear hb6
      refine hK.out _ _ ⟨(blk_cell X6.out 0).trans rfl, (blk_cell X6.out 1).trans rfl, (blk_cell X6.out 2).trans rfl, (blk_cell X6.out 3).trans rfl, (blk_cell X7.out 0).trans rfl, (blk_cell X7.out 1).trans rfl, (blk_cell X7.out 2).trans rfl, (blk_cell X7.out 3).trans rfl, (blk_cell X8.out 0).trans rfl, (blk_cell X8.out 1).trans rfl, (blk_cell X8.out 2).trans rfl, (blk_cell X8.out 3).trans rfl, (blk_cell X9.out 0).trans rfl, (blk_cell X9.out 1).trans rfl, (blk_cell X9.out 2).trans rfl, (blk_cell X9.out 3).trans rfl⟩ (fun hHeld => ?_)
      clear hK K
      refine norm_ (a' := ?_) ?_ ?_
      rotate_left
      · show Act.put _ (some 61) _ = _
        simp only [Act.put, List.setIfInBounds_toArray, List.set_cons_zero, List.set_cons_succ, i64_w, i32_w]
        rfl
      refine pure_ (i := 29) (N := some 62) (v := ?_) (a' := ?_) #[true, true, true, true, true, true, true, true, true, true, true, true, true, true, true, true, true, true, true, true, true, true, true, true, true, true, true, true, true, true, false, false, false, false, false] rfl rfl (any_of HT_.out (by kernel_rfl)) (fun _ _ _ h => h) (Or.inl ⟨by rfl, ?_⟩) ?_ ?_
      rotate_left
      · intro w'
        go_simp
        with_reducible rfl
      rotate_left
      · simp only [Act.put, List.setIfInBounds_toArray, List.set_cons_zero, List.set_cons_succ, i64_w, i32_w]
        rfl
      refine pure_ (i := 30) (N := some 63) (v := ?_) (a' := ?_) #[true, true, true, true, true, true, true, true, true, true, true, true, true, true, true, true, true, true, true, true, true, true, true, true, true, true, true, true, true, true, true, false, false, false, false] rfl rfl (any_of HT_.out (by kernel_rfl)) (fun _ _ _ h => h) (Or.inl ⟨by rfl, ?_⟩) ?_ ?_
      rotate_left
      · intro w'
        go_simp
        with_reducible rfl
      rotate_left
      · simp only [Act.put, List.setIfInBounds_toArray, List.set_cons_zero, List.set_cons_succ, i64_w, i32_w]
        rfl
      refine take_ (i := 31) (N := some 64) (v := ?_) (a' := ?_) #[true, true, true, true, true, true, true, true, true, true, true, true, true, true, true, true, true, true, true, true, true, true, true, true, true, true, true, true, true, true, true, true, false, false, false] rfl rfl (take_ofW HT_.out HW_.out (by kernel_rfl)) (fun _ _ _ h => h) (Or.inl ⟨by rfl, ?_⟩) hHeld ?_ ?_
      rotate_left
      · rintro w' ⟨s0, s1, s2, s3, s4, s5, s6, s7, s8, s9, s10, s11, s12, s13, s14, s15⟩
        go_simp
        with_reducible rfl
      rotate_left
      · simp only [Act.put, List.setIfInBounds_toArray, List.set_cons_zero, List.set_cons_succ, i64_w, i32_w]
        rfl
      refine one_ (i := 32) (N := some 65) #[true, true, true, true, true, true, true, true, true, true, true, true, true, true, true, true, true, true, true, true, true, true, true, true, true, true, true, true, true, true, true, true, true, false, false] rfl rfl (one_of HT_.out (by kernel_rfl)) (by decide) (fun K hK => ?_)
      refine goes_ Try.func10 (by kernel_rfl) rfl #[.agg #[.string a, .string b, .int .i64 n, .bool p]] (by rfl) rfl rfl (by simp only [List.map_toArray, List.map_cons, List.map_nil]; rfl) ?_
      with_reducible refine (call_may a b n p hb _ hm8.out _).mono ?_
      rintro e w6 ⟨rfl, hb6⟩
      refine ⟨_, rfl, ?_⟩
      have HB := Lib.hid (HB.out.trans (hb6.mono HB.out.size))
      have X6 := Lib.hid ((hb6.block _ (blk_lt X6.out)).trans X6.out)
      have X7 := Lib.hid ((hb6.block _ (blk_lt X7.out)).trans X7.out)
      have X8 := Lib.hid ((hb6.block _ (blk_lt X8.out)).trans X8.out)
      have X9 := Lib.hid ((hb6.block _ (blk_lt X9.out)).trans X9.out)
      clear hb6
      refine hK.out _ _ ⟨(blk_cell X6.out 0).trans rfl, (blk_cell X6.out 1).trans rfl, (blk_cell X6.out 2).trans rfl, (blk_cell X6.out 3).trans rfl, (blk_cell X7.out 0).trans rfl, (blk_cell X7.out 1).trans rfl, (blk_cell X7.out 2).trans rfl, (blk_cell X7.out 3).trans rfl, (blk_cell X8.out 0).trans rfl, (blk_cell X8.out 1).trans rfl, (blk_cell X8.out 2).trans rfl, (blk_cell X8.out 3).trans rfl, (blk_cell X9.out 0).trans rfl, (blk_cell X9.out 1).trans rfl, (blk_cell X9.out 2).trans rfl, (blk_cell X9.out 3).trans rfl⟩ (fun hHeld => ?_)
      clear hK K
      refine norm_ (a' := ?_) ?_ ?_
      rotate_left
      · show Act.put _ (some 65) _ = _
        simp only [Act.put, List.setIfInBounds_toArray, List.set_cons_zero, List.set_cons_succ, i64_w, i32_w]
        rfl
      refine pure_ (i := 33) (N := some 66) (v := ?_) (a' := ?_) #[true, true, true, true, true, true, true, true, true, true, true, true, true, true, true, true, true, true, true, true, true, true, true, true, true, true, true, true, true, true, true, true, true, true, false] rfl rfl (any_of HT_.out (by kernel_rfl)) (fun _ _ _ h => h) (Or.inl ⟨by rfl, ?_⟩) ?_ ?_
      rotate_left
      · intro w'
        go_simp
        with_reducible rfl
      rotate_left
      · simp only [Act.put, List.setIfInBounds_toArray, List.set_cons_zero, List.set_cons_succ, i64_w, i32_w]
        rfl
      refine pure_ (i := 34) (N := some 4) (v := ?_) (a' := ?_) #[true, true, true, true, true, true, true, true, true, true, true, true, true, true, true, true, true, true, true, true, true, true, true, true, true, true, true, true, true, true, true, true, true, true, true] rfl rfl (any_of HT_.out (by kernel_rfl)) (fun _ _ _ h => h) (Or.inl ⟨by rfl, ?_⟩) ?_ ?_
      rotate_left
      · intro w'
        go_simp
        with_reducible rfl
      rotate_left
      · simp only [Act.put, List.setIfInBounds_toArray, List.set_cons_zero, List.set_cons_succ, i64_w, i32_w]
        rfl
      refine done_ (done_of HT_.out (by kernel_rfl)) ?_
      go_wp2
      go_ret
      exact ⟨rfl, HB.out⟩
  · refine (call_may a b n o hb false (decide_eq_false hmay) w3).mono ?_
    rintro e w4 ⟨rfl, hb4⟩
    have HB := Lib.hid (HB.out.trans (hb4.mono HB.out.size))
    go_wp2
    go_ret
    exact ⟨rfl, HB.out⟩
end Go.Proofs.Ytecjkpjcmgohmaa.WalkTokenTurned
