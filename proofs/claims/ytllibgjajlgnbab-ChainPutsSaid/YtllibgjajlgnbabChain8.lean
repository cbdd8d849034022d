/- Nobody's store; a put always ends. -/
import Derived.Test.YtllibgjajlgnbabChain7
namespace Go.Proofs.Ytllibgjajlgnbab.Chain
open Go Go.RowKit Go.Proofs.Ytllibgjajlgnbab.Only Go.Proofs.Ytllibgjajlgnbab.Mem Go.Proofs.Ytllibgjajlgnbab.New Go.Proofs.Ytllibgjajlgnbab.Args
set_option linter.unusedVariables false
set_option linter.unusedSimpArgs false

set_option maxRecDepth 100000 in
theorem cell_nil (w : World) : Calls Try.prog 28 #[.pointer none] w fun e w' => e = .returned (.tuple #[.int .i64 0, .int .i64 1]) ∧ w = w' := by
  go_enter Try.func28, Try.ntmps28
  go_wp2
  go_ret2
  exact ⟨rfl, rfl⟩
set_option maxRecDepth 100000 in
theorem of_nil (w : World) (id : Int) : Calls Try.prog 55 #[.pointer none, .int .u64 id] w fun e w' => e = .returned (.tuple #[.agg #[.int .i64 0, .string ⟨#[]⟩, .string ⟨#[]⟩, .bool false, .int .u64 0], .bool false]) ∧ Below w.heap.size w w' := by
  go_enter Try.func55, Try.ntmps55
  go_wp2
  obtain ⟨⟨z0, z1, z2, z3, z4⟩, _⟩ := cell5 (heap_alloc_new w (.cells #[.int .i64 0, .string ⟨#[]⟩, .string ⟨#[]⟩, .bool false, .int .u64 0] 116))
  refine bodyPost_ret (v := .tuple #[.agg #[.int .i64 0, .string ⟨#[]⟩, .string ⟨#[]⟩, .bool false, .int .u64 0], .bool false]) ?_ rfl ⟨rfl, al9 _ _⟩
  generalize (w.alloc (.cells #[.int .i64 0, .string ⟨#[]⟩, .string ⟨#[]⟩, .bool false, .int .u64 0] 116)) = wz at z0 z1 z2 z3 z4 ⊢
  simp [results, Try.results55, go_sem, z0, z1, z2, z3, z4]
set_option maxRecDepth 100000 in
theorem rev_nil (w : World) (id : Int) : Calls Try.prog 31 #[.pointer none, .int .u64 id] w fun e w' => e = .returned (.int .i64 0) ∧ Below w.heap.size w w' := by
  go_enter Try.func31, Try.ntmps31
  go_wp2_with fail
  refine (of_nil w id).mono ?_
  rintro e w1 ⟨rfl, hb⟩
  have s1 := hb.size
  have hb := Lib.hid hb
  go_wp2
  go_ret
  exact ⟨rfl, hb.out.alloc s1 _⟩
set_option maxRecDepth 100000 in
theorem put_nil (w : World) (r : Int) (key val : ByteArray) (del : Bool) : Calls Try.prog 32 #[.pointer none, .int .i64 0, .agg #[.int .i64 r, .string key, .string val, .bool del]] w fun e w' => e = .returned (.pointer none) ∧ Below w.heap.size w w' := by
  go_enter Try.func32, Try.ntmps32
  go_wp2
  go_ret
  exact ⟨rfl, al9 _ _⟩
set_option maxRecDepth 100000 in
theorem step_nil (w : World) : Calls Try.prog 33 #[.pointer none] w fun e w' => e = .returned (.bool true) ∧ w = w' := by
  go_enter Try.func33, Try.ntmps33
  go_wp2
  go_ret
  exact ⟨rfl, rfl⟩
set_option maxRecDepth 100000 in
theorem new_nil (w : World) : Calls Try.prog 30 #[.pointer none] w fun e w' => e = .returned (.pointer none) ∧ w = w' := by
  go_enter Try.func30, Try.ntmps30
  go_wp2
  go_ret
  exact ⟨rfl, rfl⟩
set_option maxHeartbeats 4000000 in
set_option maxRecDepth 100000 in
theorem at_nil (w : World) (id r : Int) : Calls Try.prog 29 #[.pointer none, .int .u64 id, .int .i64 r] w fun e w' => e = .returned (.tuple #[.agg #[.string ⟨#[]⟩, .string ⟨#[]⟩, .int .i64 0], .bool false]) ∧ Below w.heap.size w w' := by
  have hbx := al9 w (.cells #[.string ⟨#[]⟩, .string ⟨#[]⟩, .int .i64 0] 63)
  have kx := heap_alloc_new w (.cells #[.string ⟨#[]⟩, .string ⟨#[]⟩, .int .i64 0] 63)
  have kx := Lib.hid kx
  have hbx := Lib.hid hbx
  go_enter Try.func29, Try.ntmps29
  go_wp2_with fail
  refine (of_nil _ id).mono ?_
  rintro e w1 ⟨rfl, hb1⟩
  have B1 := Lib.hid (hbx.out.trans (hb1.mono hbx.out.size))
  have k1 := Lib.hid ((hb1.block _ (lt_of_heap kx.out)).trans kx.out)
  clear hb1 kx hbx
  go_wp2_with fail
  have k2 := Lib.hid ((heap_alloc_old w1 (.cells #[.int .i64 0, .string ⟨#[]⟩, .string ⟨#[]⟩, .bool false, .int .u64 0] 116) (lt_of_heap k1.out)).trans k1.out)
  have B2 := Lib.hid (B1.out.alloc B1.out.size (.cells #[.int .i64 0, .string ⟨#[]⟩, .string ⟨#[]⟩, .bool false, .int .u64 0] 116))
  generalize (w1.alloc (.cells #[.int .i64 0, .string ⟨#[]⟩, .string ⟨#[]⟩, .bool false, .int .u64 0] 116)) = w2 at *
  go_loopw [9] (fun ok wr => ok = .bool false ∧ wr = w2) (fun _ _ => 0)
  case atStart => exact ⟨rfl, rfl⟩
  case round =>
    obtain ⟨rfl, rfl⟩ := hrel
    have kk := k2.out
    have kz : wr.cell? ⟨w.heap.size, 0, none⟩ = some (.string ⟨#[]⟩) ∧ wr.cell? ⟨w.heap.size, 1, none⟩ = some (.string ⟨#[]⟩) ∧ wr.cell? ⟨w.heap.size, 2, none⟩ = some (.int .i64 0) ∧ wr.frozen? ⟨w.heap.size, 0, none⟩ = false ∧ wr.frozen? ⟨w.heap.size, 1, none⟩ = false ∧ wr.frozen? ⟨w.heap.size, 2, none⟩ = false := by simp [World.cell?, World.frozen?, kk]
    obtain ⟨b0, b1, b2, b3, b4, b5⟩ := kz
    clear kk
    have zz : (((wr.setCell ⟨w.heap.size, 0, none⟩ (.string ⟨#[]⟩)).setCell ⟨w.heap.size, 1, none⟩ (.string ⟨#[]⟩)).setCell ⟨w.heap.size, 2, none⟩ (.int .i64 0)).heap[w.heap.size]? = some (.cells #[.string ⟨#[]⟩, .string ⟨#[]⟩, .int .i64 0] 63 (0, 0)) := by
      have kk := k2.out
      simp [World.setCell, Array.getElem?_modify, kk]
    have zw : Below w.heap.size w (((wr.setCell ⟨w.heap.size, 0, none⟩ (.string ⟨#[]⟩)).setCell ⟨w.heap.size, 1, none⟩ (.string ⟨#[]⟩)).setCell ⟨w.heap.size, 2, none⟩ (.int .i64 0)) := ((B2.out.setCell (by simp) _).setCell (by simp) _).setCell (by simp) _
    have zz := Lib.hid zz
    have zw := Lib.hid zw
    go_wp2
    refine bodyPost_ret (v := .tuple #[.agg #[.string ⟨#[]⟩, .string ⟨#[]⟩, .int .i64 0], .bool false]) ?_ rfl ⟨rfl, zw.out⟩
    have zz := zz.out
    generalize (((wr.setCell ⟨w.heap.size, 0, none⟩ (.string ⟨#[]⟩)).setCell ⟨w.heap.size, 1, none⟩ (.string ⟨#[]⟩)).setCell ⟨w.heap.size, 2, none⟩ (.int .i64 0)) = wz at zz ⊢
    have z0 : wz.cell? ⟨w.heap.size, 0, none⟩ = some (.string ⟨#[]⟩) := by simp [World.cell?, zz]
    have z1 : wz.cell? ⟨w.heap.size, 1, none⟩ = some (.string ⟨#[]⟩) := by simp [World.cell?, zz]
    have z2 : wz.cell? ⟨w.heap.size, 2, none⟩ = some (.int .i64 0) := by simp [World.cell?, zz]
    simp [results, Try.results29, go_sem, z0, z1, z2]

set_option maxRecDepth 100000 in
theorem cell_full {B sb p : Nat} {v : Value} {C : List Int} {n : Int} {vs : Value} {Vs : List Ver} {w : World} (h : StoreAt B sb p v C n vs Vs w) (hC : C.length = 65536) :
    Calls Try.prog 28 #[.pointer (some ⟨sb, 0, none⟩)] w fun e w' => e = .returned (.tuple #[.int .i64 0, .int .i64 7]) ∧ w = w' := by
  obtain ⟨c0, c1, c2⟩ := h.cells
  have H := Lib.hid h
  clear h
  go_enter Try.func28, Try.ntmps28
  go_wp2_with fail
  refine (Grow.grow_bad H.out.mem (by omega) 1 (by omega) (by omega)).mono ?_
  rintro e w1 ⟨rfl, rfl⟩
  go_wp2
  go_ret2
  exact ⟨rfl, rfl⟩

/-- One cell stays one cell. -/
theorem stepC1 (x : Int) (Vs : List Ver) (P : PutS) (hc : P.c = 0) : ∃ x', stepC [x] Vs P = [x'] := by
  unfold stepC
  rw [hc]
  split; exact ⟨x, rfl⟩
  split
  · rw [casAt1]; exact ⟨_, rfl⟩
  · exact ⟨x, rfl⟩
theorem run1 (x : Int) (Vs : List Ver) (P : PutS) (hc : P.c = 0) : ∀ k, ∃ x', ((One.mk [x] Vs P).run k).C = [x'] ∧ ((One.mk [x] Vs P).run k).P.c = 0 := by
  intro k
  induction k generalizing x Vs P with
  | zero => exact ⟨x, rfl, hc⟩
  | succ k ih =>
    obtain ⟨x', hx⟩ := stepC1 x Vs P hc
    have e : (One.mk [x] Vs P).step = ⟨[x'], stepV Vs P, stepP [x] Vs P⟩ := by unfold One.step; simp only [hx]
    have hc' : (stepP [x] Vs P).c = 0 := (stepP_c [x] Vs P).1.trans hc
    unfold One.run
    split
    · rw [e]; exact ⟨x', rfl, hc'⟩
    · rw [e]; exact ih x' _ _ hc'
theorem run_ok {s : One} {m : Nat} : ∀ (k : Nat), m + k ≤ 1000000 → s.Ok m → (s.run k).Ok (m + k) := by
  intro k
  induction k generalizing s m with
  | zero => exact fun _ h => h
  | succ k ih =>
    intro hm h
    have h1 := h.step (by omega)
    unfold One.run
    split
    · exact ⟨h1.C, h1.c, by have := h1.l; omega⟩
    · have h2 := ih (by omega) h1
      exact ⟨h2.C, h2.c, by have := h2.l; omega⟩
/-- A put ends. -/
theorem run_done (x : Int) (Vs : List Ver) (P : PutS) (hc : P.c = 0) : ((One.mk [x] Vs P).run 10).P.done = true := by
  obtain ⟨c, r, key, val, del, last, seen, done⟩ := P
  dsimp only at hc
  subst hc
  have fresh : ∀ (k : Nat) (Vs : List Ver) (last : Int), ((One.mk [x] Vs ⟨0, r, key, val, del, last, false, false⟩).run (k + 2)).P.done = true := by
    intro k Vs last
    have e1 : (One.mk [x] Vs ⟨0, r, key, val, del, last, false, false⟩).step = ⟨[x], Vs, ⟨0, r, key, val, del, x, true, decide (r ≤ (ofV Vs x).rev)⟩⟩ := by
      simp [One.step, stepC, stepV, stepP, rd1]
    rw [One.run, e1]
    by_cases h : r ≤ (ofV Vs x).rev
    · simp [h]
    · have e2 : (One.mk [x] Vs ⟨0, r, key, val, del, x, true, false⟩).step.P.done = true := by
        simp [One.step, stepP, casB1]
      simp only [h, decide_false, if_false, Bool.false_eq_true]
      rw [One.run, e2]
      simpa using e2
  cases done with
  | true =>
    have e : (One.mk [x] Vs ⟨0, r, key, val, del, last, seen, true⟩).step.P.done = true := by simp [One.step, stepP]
    rw [One.run, e]; simpa using e
  | false =>
    cases seen with
    | false => exact fresh 8 Vs last
    | true =>
      rw [One.run]
      by_cases h : x = last
      · have e : (One.mk [x] Vs ⟨0, r, key, val, del, last, true, false⟩).step.P.done = true := by simp [One.step, stepP, casB1, h]
        rw [e]; simpa using e
      · have e : (One.mk [x] Vs ⟨0, r, key, val, del, last, true, false⟩).step = ⟨[x], Vs ++ [⟨r, key, val, del, last⟩], ⟨0, r, key, val, del, last, false, false⟩⟩ := by
          simp [One.step, stepC, stepV, stepP, casAt1, casB1, PutS.ver, h]
        rw [e]
        exact fresh 7 _ _
end Go.Proofs.Ytllibgjajlgnbab.Chain
