/- package ring: New, and what the outside calls. -/
import Derived.Test.YtllibgjajlgnbabRing
namespace Go.Proofs.Ytllibgjajlgnbab.RingNew
open Go Go.RowKit Go.Proofs.Ytllibgjajlgnbab.Only Go.Proofs.Ytllibgjajlgnbab.Mem Go.Proofs.Ytllibgjajlgnbab.New Go.Proofs.Ytllibgjajlgnbab.Ring
set_option linter.unusedVariables false
set_option linter.unusedSimpArgs false

set_option maxRecDepth 100000 in
theorem slot {B b p : Nat} {v : Value} {C : List Int} {n : Int} {w : World} (h : LogAt B b p v C n w) (hC : ∀ x ∈ C, 0 ≤ x ∧ x ≤ 18446744073709551615) (k : Int) (hk : -9223372036854775808 ≤ k ∧ k ≤ 9223372036854775807) (hn : 0 ≤ n ∧ n < 4611686018427387904) :
    Calls Try.prog 15 #[.pointer (some ⟨b, 0, none⟩), .int .i64 k] w (Looked B b p v C n 0 k w) := by
  go_enter Try.func15, Try.ntmps15
  go_wp2_with fail
  refine (Ring.look h hC 0 k (.inl rfl) hk hn).mono ?_
  rintro e w1 ⟨rfl, h1, ho1⟩
  have fin : Looked B b p v C n 0 k w (.returned (.tuple #[.int .i64 (lookA C 0 k), .int .u64 (lookW C 0 k), .bool (lookB C 0 k)])) w1 := ⟨rfl, h1, ho1⟩
  have fin := Lib.hid fin
  clear h1 ho1
  go_wp2
  go_ret3
  exact fin.out

set_option maxRecDepth 100000 in
theorem done {B b p : Nat} {v : Value} {C : List Int} {n : Int} {w : World} (h : LogAt B b p v C n w) (hC : ∀ x ∈ C, 0 ≤ x ∧ x ≤ 18446744073709551615) (k : Int) (hk : -9223372036854775808 ≤ k ∧ k ≤ 9223372036854775807) (hn : 0 ≤ n ∧ n < 4611686018427387904) :
    Calls Try.prog 17 #[.pointer (some ⟨b, 0, none⟩), .int .i64 k] w (Looked B b p v C n 1 k w) := by
  go_enter Try.func17, Try.ntmps17
  go_wp2_with fail
  refine (Ring.look h hC 1 k (.inr rfl) hk hn).mono ?_
  rintro e w1 ⟨rfl, h1, ho1⟩
  have fin : Looked B b p v C n 1 k w (.returned (.tuple #[.int .i64 (lookA C 1 k), .int .u64 (lookW C 1 k), .bool (lookB C 1 k)])) w1 := ⟨rfl, h1, ho1⟩
  have fin := Lib.hid fin
  clear h1 ho1
  go_wp2
  go_ret3
  exact fin.out

set_option maxRecDepth 100000 in
theorem claim {B b p : Nat} {v : Value} {C : List Int} {n : Int} {w : World} (h : LogAt B b p v C n w) (k was what : Int) (hk : -9223372036854775808 ≤ k ∧ k ≤ 9223372036854775807) (hw : 0 ≤ what ∧ what ≤ 1073741824) (hn : 0 ≤ n ∧ n < 4611686018427387904) :
    Calls Try.prog 16 #[.pointer (some ⟨b, 0, none⟩), .int .i64 k, .int .u64 was, .int .i64 what] w (Put B b p v C n 0 k was what w) := by
  go_enter Try.func16, Try.ntmps16
  go_wp2_with fail
  refine (Ring.set h 0 k was what (.inl rfl) hk hw hn).mono ?_
  rintro e w1 ⟨rfl, h1, ho1⟩
  have fin : Put B b p v C n 0 k was what w (.returned (.bool (setB C 0 k was))) w1 := ⟨rfl, h1, ho1⟩
  have fin := Lib.hid fin
  clear h1 ho1
  go_wp2
  go_ret
  exact fin.out

set_option maxRecDepth 100000 in
theorem note {B b p : Nat} {v : Value} {C : List Int} {n : Int} {w : World} (h : LogAt B b p v C n w) (k was what : Int) (hk : -9223372036854775808 ≤ k ∧ k ≤ 9223372036854775807) (hw : 0 ≤ what ∧ what ≤ 1073741824) (hn : 0 ≤ n ∧ n < 4611686018427387904) :
    Calls Try.prog 22 #[.pointer (some ⟨b, 0, none⟩), .int .i64 k, .int .u64 was, .int .i64 what] w (Put B b p v C n 1 k was what w) := by
  go_enter Try.func22, Try.ntmps22
  go_wp2_with fail
  refine (Ring.set h 1 k was what (.inr rfl) hk hw hn).mono ?_
  rintro e w1 ⟨rfl, h1, ho1⟩
  have fin : Put B b p v C n 1 k was what w (.returned (.bool (setB C 1 k was))) w1 := ⟨rfl, h1, ho1⟩
  have fin := Lib.hid fin
  clear h1 ho1
  go_wp2
  go_ret
  exact fin.out

/-- What New leaves, of a Mem of two cells. -/
def Made (B p : Nat) (w : World) (e : Ending) (w' : World) : Prop :=
  ∃ b v, e = .returned (.pointer (some ⟨b, 0, none⟩)) ∧ LogAt B b p v (List.replicate 35 0) 0 w' ∧ Below B w w'

set_option maxHeartbeats 1000000 in
set_option maxRecDepth 100000 in
theorem new {B p : Nat} {v : Value} {w : World} (h : MemAt B p v (List.replicate 2 0) 0 w) (hB : B ≤ w.heap.size) :
    Calls Try.prog 24 #[.pointer (some ⟨p, 0, none⟩)] w (Made B p w) := by
  have H := Lib.hid h
  clear h
  go_enter Try.func24, Try.ntmps24
  go_wp2_with fail
  refine (Grow.grow H.out hB 33 (by simp)).mono ?_
  rintro e w1 ⟨rfl, v', h1, ho1, hat⟩
  have hb1 := footB H.out ho1 hB
  have hb2 : Below w1.heap.size w1 (w1.alloc (.cells #[.pointer (some ⟨p, 0, none⟩), .int .i64 2] 104)) := (Below.refl _ _).alloc (Nat.le_refl _) _
  have fin : Made B p w (.returned (.pointer (some ⟨w1.heap.size, 0, none⟩))) (w1.alloc (.cells #[.pointer (some ⟨p, 0, none⟩), .int .i64 2] 104)) := by
    have hs := ho1.size
    refine ⟨_, v', rfl, ⟨h1.below hb2, heap_alloc_new _ _, by omega, ?_, rfl⟩, hb1.trans (hb2.mono (by omega))⟩
    intro hf
    rcases hf with e | e
    · have := h1.lt; omega
    · rcases h1.own.2 with ⟨h2, _⟩ | ⟨g, cap, cur, hg, hb, hgg, _⟩
      · rw [h2] at e; cases e
      · have e2 : g = w1.heap.size := by simpa [hg, Value.ownBlock] using e
        have := lt_of_heap hgg; omega
  have fin := Lib.hid fin
  clear h1 ho1 hat hb1 hb2
  go_wp2
  go_ret
  exact fin.out
end Go.Proofs.Ytllibgjajlgnbab.RingNew
