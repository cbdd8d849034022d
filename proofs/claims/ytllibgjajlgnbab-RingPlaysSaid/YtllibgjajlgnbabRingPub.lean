/- package ring: Publish. -/
import Derived.Test.YtllibgjajlgnbabRingHead
namespace Go.Proofs.Ytllibgjajlgnbab.RingPub
open Go Go.RowKit Go.Proofs.Ytllibgjajlgnbab.Only Go.Proofs.Ytllibgjajlgnbab.Mem Go.Proofs.Ytllibgjajlgnbab.New Go.Proofs.Ytllibgjajlgnbab.Ring
set_option linter.unusedVariables false
set_option linter.unusedSimpArgs false

/-- What Publish leaves. -/
def Published (B b p : Nat) (v : Value) (C : List Int) (n x y : Int) (w : World) (e : Ending) (w' : World) : Prop :=
  e = .returned (.bool (casB C 2 x)) ∧ LogAt B b p v (casAt C 2 x y) (n + 1) w' ∧ Only (Foot p v) w w'

theorem foot_lt' {B p : Nat} {v : Value} {C : List Int} {n : Int} {w : World} (h : MemAt B p v C n w) : ∀ j, w.heap.size ≤ j → ¬ Foot p v j := by
  intro j hj hf
  rcases hf with e | e
  · have := h.lt; omega
  · rcases h.own.2 with ⟨h2, _⟩ | ⟨g, cap, cur, hg, hb, hgg, r⟩
    · subst h2; cases e
    · have e2 : g = j := by simpa [hg, Value.ownBlock] using e
      have := lt_of_heap hgg; omega

/-- The log, and the two boxes. -/
structure PB (B b p : Nat) (v : Value) (C : List Int) (n : Int) (k : Nat) (a0 a1 a2 d0 d1 d2 : Int) (w : World) : Prop where
  log : LogAt B b p v C n w
  A : w.heap[k]? = some (.cells #[.int .i64 a0, .int .i64 a1, .int .i64 a2] 41 (0, 0))
  D : w.heap[k + 1]? = some (.cells #[.int .i64 d0, .int .i64 d1, .int .i64 d2] 41 (0, 0))
theorem PB.below {B b p k : Nat} {v : Value} {C : List Int} {n a0 a1 a2 d0 d1 d2 : Int} {w w' : World} (h : PB B b p v C n k a0 a1 a2 d0 d1 d2 w) (hb : Below w.heap.size w w') : PB B b p v C n k a0 a1 a2 d0 d1 d2 w' :=
  ⟨RingHead.LogAt.below h.log hb, (hb.block _ (lt_of_heap h.A)).trans h.A, (hb.block _ (lt_of_heap h.D)).trans h.D⟩
theorem PB.S {B b p k : Nat} {v : Value} {C : List Int} {n a0 a1 a2 d0 d1 d2 : Int} {w : World} (h : PB B b p v C n k a0 a1 a2 d0 d1 d2 w) :
    w.cell? ⟨b, 0, none⟩ = some (.pointer (some ⟨p, 0, none⟩)) ∧ w.cell? ⟨b, 1, none⟩ = some (.int .i64 2) ∧ w.cell? ⟨k, 0, none⟩ = some (.int .i64 a0) ∧ w.cell? ⟨k, 1, none⟩ = some (.int .i64 a1) ∧ w.cell? ⟨k, 2, none⟩ = some (.int .i64 a2) ∧ w.cell? ⟨k + 1, 0, none⟩ = some (.int .i64 d0) ∧ w.cell? ⟨k + 1, 1, none⟩ = some (.int .i64 d1) ∧ w.cell? ⟨k + 1, 2, none⟩ = some (.int .i64 d2) := by
  have e1 := h.A
  have e2 := h.D
  refine ⟨h.log.cells.1, h.log.cells.2, ?_⟩
  simp [World.cell?, e1, e2]

theorem PB.S2 {B b p k : Nat} {v : Value} {C : List Int} {n a0 a1 a2 d0 d1 d2 : Int} {w w' : World} (h : PB B b p v C n k a0 a1 a2 d0 d1 d2 w) (ho : Only (Foot p v) w w') (hk : ¬ Foot p v k) (hk1 : ¬ Foot p v (k + 1)) :
    w'.cell? ⟨b, 0, none⟩ = some (.pointer (some ⟨p, 0, none⟩)) ∧ w'.cell? ⟨b, 1, none⟩ = some (.int .i64 2) ∧ w'.cell? ⟨k, 0, none⟩ = some (.int .i64 a0) ∧ w'.cell? ⟨k, 1, none⟩ = some (.int .i64 a1) ∧ w'.cell? ⟨k, 2, none⟩ = some (.int .i64 a2) ∧ w'.cell? ⟨k + 1, 0, none⟩ = some (.int .i64 d0) ∧ w'.cell? ⟨k + 1, 1, none⟩ = some (.int .i64 d1) ∧ w'.cell? ⟨k + 1, 2, none⟩ = some (.int .i64 d2) := by
  have e0 := (ho.block _ (lt_of_heap h.log.blk) h.log.far).trans h.log.blk
  have e1 := (ho.block _ (lt_of_heap h.A) hk).trans h.A
  have e2 := (ho.block _ (lt_of_heap h.D) hk1).trans h.D
  simp [World.cell?, e0, e1, e2]

set_option maxHeartbeats 2000000 in
set_option maxRecDepth 100000 in
theorem publish {B b p : Nat} {v : Value} {C : List Int} {n : Int} {w : World} (h : LogAt B b p v C n w) (hn : 0 ≤ n ∧ n < 4611686018427387904) (a0 a1 a2 d0 d1 d2 : Int)
    (ha0 : -9223372036854775808 ≤ a0 ∧ a0 ≤ 9223372036854775807) (ha1 : -9223372036854775808 ≤ a1 ∧ a1 ≤ 9223372036854775807) (ha2 : -9223372036854775808 ≤ a2 ∧ a2 ≤ 9223372036854775807)
    (hd0 : -9223372036854775808 ≤ d0 ∧ d0 ≤ 9223372036854775807) (hd1 : -9223372036854775808 ≤ d1 ∧ d1 ≤ 9223372036854775807) (hd2 : -9223372036854775808 ≤ d2 ∧ d2 ≤ 9223372036854775807) :
    Calls Try.prog 21 #[.pointer (some ⟨b, 0, none⟩), .agg #[.int .i64 a0, .int .i64 a1, .int .i64 a2], .agg #[.int .i64 d0, .int .i64 d1, .int .i64 d2]] w (Published B b p v C n (Bits.head a0 a1 a2) (Bits.head d0 d1 d2) w) := by
  have hb1 : Below w.heap.size w ((w.alloc (.cells #[.int .i64 a0, .int .i64 a1, .int .i64 a2] 41)).alloc (.cells #[.int .i64 d0, .int .i64 d1, .int .i64 d2] 41)) := ((Below.refl _ _).alloc (Nat.le_refl _) _).alloc (by simp) _
  have L1 : PB B b p v C n w.heap.size a0 a1 a2 d0 d1 d2 ((w.alloc (.cells #[.int .i64 a0, .int .i64 a1, .int .i64 a2] 41)).alloc (.cells #[.int .i64 d0, .int .i64 d1, .int .i64 d2] 41)).drew := by
    have k := RingHead.LogAt.drew (RingHead.LogAt.below h hb1)
    refine ⟨k, ?_, ?_⟩
    · exact (heap_alloc_old _ _ (by simp)).trans (heap_alloc_new w (.cells #[.int .i64 a0, .int .i64 a1, .int .i64 a2] 41))
    · have q := heap_alloc_new (w.alloc (.cells #[.int .i64 a0, .int .i64 a1, .int .i64 a2] 41)) (.cells #[.int .i64 d0, .int .i64 d1, .int .i64 d2] 41)
      rw [show (w.alloc (.cells #[.int .i64 a0, .int .i64 a1, .int .i64 a2] 41)).heap.size = w.heap.size + 1 by simp] at q
      exact q
  obtain ⟨c0, c1, c2, c3, c4, c5, c6, c7⟩ := L1.S
  have hlen := h.len
  have nf0 : ¬ Foot p v w.heap.size := foot_lt' h.mem _ (Nat.le_refl _)
  have nf1 : ¬ Foot p v (w.heap.size + 1) := foot_lt' h.mem _ (by omega)
  have L1 := Lib.hid L1
  have H := Lib.hid h
  have hb1 := Lib.hid hb1
  clear h
  go_enter Try.func21, Try.ntmps21
  go_wp2_with fail
  go_region_held3 (fun w' => w'.cell? ⟨b, 0, none⟩ = some (.pointer (some ⟨p, 0, none⟩)) ∧ w'.cell? ⟨b, 1, none⟩ = some (.int .i64 2) ∧ w'.cell? ⟨w.heap.size, 0, none⟩ = some (.int .i64 a0) ∧ w'.cell? ⟨w.heap.size, 1, none⟩ = some (.int .i64 a1) ∧ w'.cell? ⟨w.heap.size, 2, none⟩ = some (.int .i64 a2) ∧ w'.cell? ⟨w.heap.size + 1, 0, none⟩ = some (.int .i64 d0) ∧ w'.cell? ⟨w.heap.size + 1, 1, none⟩ = some (.int .i64 d1) ∧ w'.cell? ⟨w.heap.size + 1, 2, none⟩ = some (.int .i64 d2))
    (first | exact S5 | go_keep)
    (first
      | (go_at_call_of 53 (Value.agg #[.int .i64 a0, .int .i64 a1, .int .i64 a2]) ; refine (Words.head _ a0 a1 a2 ha0 ha1 ha2).mono ?_ ; rintro e w3 ⟨rfl, hw3⟩ ; have L3 := Lib.hid (PB.below L2.out hw3) ; have S5 := L3.out.S ; have bw3 := Lib.hid hw3 ; clear hw3)
      | (go_at_call_of 53 (Value.agg #[.int .i64 d0, .int .i64 d1, .int .i64 d2]) ; refine (Words.head _ d0 d1 d2 hd0 hd1 hd2).mono ?_ ; rintro e w3 ⟨rfl, hw3⟩ ; have L3 := Lib.hid (PB.below L2.out hw3) ; have S5 := L3.out.S ; have bw3 := Lib.hid hw3 ; clear hw3)
      | (go_at_call_of 53 (Value.agg #[.int .i64 a0, .int .i64 a1, .int .i64 a2]) ; refine (Words.head _ a0 a1 a2 ha0 ha1 ha2).mono ?_ ; rintro e w2 ⟨rfl, hw2⟩ ; have L2 := Lib.hid (PB.below L1.out hw2) ; have S5 := L2.out.S ; have bw2 := Lib.hid hw2 ; clear hw2)
      | (go_at_call_of 53 (Value.agg #[.int .i64 d0, .int .i64 d1, .int .i64 d2]) ; refine (Words.head _ d0 d1 d2 hd0 hd1 hd2).mono ?_ ; rintro e w2 ⟨rfl, hw2⟩ ; have L2 := Lib.hid (PB.below L1.out hw2) ; have S5 := L2.out.S ; have bw2 := Lib.hid hw2 ; clear hw2)
      | (go_at_call 52 ; refine (Mem.cas L3.out.log.mem 2 (Bits.head a0 a1 a2) (Bits.head d0 d1 d2) (by omega) hn).mono ?_ ; rintro e w4 ⟨rfl, h4, ho4⟩ ; have S5 := L3.out.S2 ho4 nf0 nf1 ; have K4 := Lib.hid (And.intro h4 ho4) ; clear h4 ho4))
  obtain ⟨h4, ho4⟩ := K4.out
  have hin : inR C 2 = true := by rw [inR_true]; omega
  have eh : hit C 2 = 1 := by unfold hit; rw [if_pos hin]
  rw [eh] at h4
  have hl : (casAt C 2 (Bits.head a0 a1 a2) (Bits.head d0 d1 d2)).length = 35 := by
    unfold casAt
    split
    · rw [setAt_length]; exact hlen
    · exact hlen
  have hO : Only (Foot p v) w w4 := (((ofBelow (S := Foot p v) hb1.out.drew).trans (ofBelow (S := fun _ => False) bw2.out) (fun _ _ x => x.elim)).trans (ofBelow (S := fun _ => False) bw3.out) (fun _ _ x => x.elim)).trans ho4 (fun _ _ x => x)
  have fin : Published B b p v C n (Bits.head a0 a1 a2) (Bits.head d0 d1 d2) w (.returned (.bool (casB C 2 (Bits.head a0 a1 a2)))) w4 := ⟨rfl, L3.out.log.next h4 ho4 hl, hO⟩
  have fin := Lib.hid fin
  clear h4 ho4 hO hl
  go_wp2
  go_ret
  exact fin.out
end Go.Proofs.Ytllibgjajlgnbab.RingPub
