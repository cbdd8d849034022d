/- Words of heads: what word.Head, word.Open and the reference's answer. -/
import Derived.Test.YtllibgjajlgnbabNew
import Derived.Test.YtllibgjajlgnbabBits
namespace Go.Proofs.Ytllibgjajlgnbab.Words
open Go Go.RowKit Go.Proofs.Ytllibgjajlgnbab.Only
set_option linter.unusedVariables false
set_option linter.unusedSimpArgs false

/-- A value is answered, in new memory. -/
def Says (v : Value) (w : World) (e : Ending) (w' : World) : Prop := e = .returned v ∧ Below w.heap.size w w'

/-- A word as a head. -/
def opened (x : Int) : Value := .agg #[.int .i64 (x / 1099511627776), .int .i64 (x / 1048576 % 1048576), .int .i64 (x % 1048576)]

set_option maxRecDepth 100000 in
theorem head (w : World) (a b c : Int) (ha : -9223372036854775808 ≤ a ∧ a ≤ 9223372036854775807) (hb : -9223372036854775808 ≤ b ∧ b ≤ 9223372036854775807) (hc : -9223372036854775808 ≤ c ∧ c ≤ 9223372036854775807) :
    Calls Try.prog 53 #[.agg #[.int .i64 a, .int .i64 b, .int .i64 c]] w (Says (.int .u64 (Bits.head a b c)) w) := by
  go_enter Try.func53, Try.ntmps53
  go_wp2
  go_ret
  refine ⟨?_, (Below.refl _ _).alloc (Nat.le_refl _) _⟩
  have e := Bits.head_is a b c
  have e0 : IntKind.u64.wrap (Go.bits .and .u64 (IntKind.u64.wrap c) 1048575) = Go.bits .and .u64 (IntKind.u64.wrap c) 1048575 := by
    rw [Bits.wrap_u64 c, Bits.and20 (c % 18446744073709551616) (by omega) (by omega), Bits.wrap_u64]; omega
  rw [← e0] at e
  simpa using e

set_option maxRecDepth 100000 in
theorem refHead (w : World) (a b c : Int) (ha : -9223372036854775808 ≤ a ∧ a ≤ 9223372036854775807) (hb : -9223372036854775808 ≤ b ∧ b ≤ 9223372036854775807) (hc : -9223372036854775808 ≤ c ∧ c ≤ 9223372036854775807) :
    Calls Try.prog 62 #[.agg #[.int .i64 a, .int .i64 b, .int .i64 c]] w (Says (.int .u64 (Bits.head a b c)) w) := by
  go_enter Try.func62, Try.ntmps62
  go_wp2
  go_ret
  refine ⟨?_, (Below.refl _ _).alloc (Nat.le_refl _) _⟩
  have e : IntKind.u64.wrap (IntKind.u64.wrap (IntKind.u64.wrap (IntKind.u64.wrap a * 1099511627776) + IntKind.u64.wrap ((IntKind.u64.wrap b).tmod 1048576 * 1048576)) + (IntKind.u64.wrap c).tmod 1048576) = Bits.head a b c := by
    simp only [Bits.wrap_u64]
    rw [Int.tmod_eq_emod_of_nonneg (by omega), Int.tmod_eq_emod_of_nonneg (by omega)]
    unfold Bits.head
    omega
  simpa using e

set_option maxRecDepth 100000 in
theorem openW (w : World) (x : Int) (hx : 0 ≤ x ∧ x ≤ 18446744073709551615) :
    Calls Try.prog 51 #[.int .u64 x] w (Says (opened x) w) := by
  go_enter Try.func51, Try.ntmps51
  go_wp2
  have e1 := Bits.open_rev x hx.1 (by omega)
  have e2 := Bits.open_hor x hx.1 (by omega)
  rw [e1, e2]
  have hz := heap_alloc_new w (.cells #[.int .i64 (x / 1099511627776), .int .i64 (x / 1048576 % 1048576), .int .i64 (x % 1048576)] 41)
  refine bodyPost_ret (v := opened x) ?_ rfl ⟨rfl, (Below.refl _ _).alloc (Nat.le_refl _) _⟩
  have z0 : (w.alloc (.cells #[.int .i64 (x / 1099511627776), .int .i64 (x / 1048576 % 1048576), .int .i64 (x % 1048576)] 41)).cell? ⟨w.heap.size, 0, none⟩ = some (.int .i64 (x / 1099511627776)) := by simp only [World.cell?, hz]; rfl
  have z1 : (w.alloc (.cells #[.int .i64 (x / 1099511627776), .int .i64 (x / 1048576 % 1048576), .int .i64 (x % 1048576)] 41)).cell? ⟨w.heap.size, 1, none⟩ = some (.int .i64 (x / 1048576 % 1048576)) := by simp only [World.cell?, hz]; rfl
  have z2 : (w.alloc (.cells #[.int .i64 (x / 1099511627776), .int .i64 (x / 1048576 % 1048576), .int .i64 (x % 1048576)] 41)).cell? ⟨w.heap.size, 2, none⟩ = some (.int .i64 (x % 1048576)) := by simp only [World.cell?, hz]; rfl
  generalize (w.alloc (.cells #[.int .i64 (x / 1099511627776), .int .i64 (x / 1048576 % 1048576), .int .i64 (x % 1048576)] 41)) = wz at z0 z1 z2 ⊢
  simp [results, Try.results51, go_sem, opened, z0, z1, z2]

set_option maxRecDepth 100000 in
theorem refOpen (w : World) (x : Int) (hx : 0 ≤ x ∧ x ≤ 18446744073709551615) :
    Calls Try.prog 60 #[.int .u64 x] w (Says (opened x) w) := by
  go_enter Try.func60, Try.ntmps60
  go_wp2
  have e1 := Bits.open_rev x hx.1 (by omega)
  have e2 := Bits.open_hor x hx.1 (by omega)
  have hz := heap_alloc_new w (.cells #[.int .i64 (x / 1099511627776), .int .i64 (x / 1048576 % 1048576), .int .i64 (x % 1048576)] 41)
  refine bodyPost_ret (v := opened x) ?_ rfl ⟨rfl, (Below.refl _ _).alloc (Nat.le_refl _) _⟩
  have z0 : (w.alloc (.cells #[.int .i64 (x / 1099511627776), .int .i64 (x / 1048576 % 1048576), .int .i64 (x % 1048576)] 41)).cell? ⟨w.heap.size, 0, none⟩ = some (.int .i64 (x / 1099511627776)) := by simp only [World.cell?, hz]; rfl
  have z1 : (w.alloc (.cells #[.int .i64 (x / 1099511627776), .int .i64 (x / 1048576 % 1048576), .int .i64 (x % 1048576)] 41)).cell? ⟨w.heap.size, 1, none⟩ = some (.int .i64 (x / 1048576 % 1048576)) := by simp only [World.cell?, hz]; rfl
  have z2 : (w.alloc (.cells #[.int .i64 (x / 1099511627776), .int .i64 (x / 1048576 % 1048576), .int .i64 (x % 1048576)] 41)).cell? ⟨w.heap.size, 2, none⟩ = some (.int .i64 (x % 1048576)) := by simp only [World.cell?, hz]; rfl
  generalize (w.alloc (.cells #[.int .i64 (x / 1099511627776), .int .i64 (x / 1048576 % 1048576), .int .i64 (x % 1048576)] 41)) = wz at z0 z1 z2 ⊢
  simp [results, Try.results60, go_sem, opened, z0, z1, z2]
end Go.Proofs.Ytllibgjajlgnbab.Words
