/- Words of 64 bits: what masks, shifts and joins come to, as numbers. -/
import Derived.Laws.BitsLemmas
import Derived.RowKit
import Derived.OpenShut
namespace Go.Proofs.Ytllibgjajlgnbab.Bits
open Go Go.RowKit

theorem wrap_u64 (n : Int) : IntKind.u64.wrap n = n % 18446744073709551616 := by simp [IntKind.wrap, IntKind.bits, IntKind.signed]

theorem wraps_u64 (n : Int) (h₀ : 0 ≤ n) (h₁ : n < 2 ^ 64) : IntKind.u64.wrap n = n := by rw [wrap_u64]; omega

theorem and3 (x : Int) (h₀ : 0 ≤ x) (h₁ : x < 18446744073709551616) : Go.bits .and .u64 x 3 = x % 4 :=
  bits_mask .u64 64 (by decide) wraps_u64 2 (by decide) x h₀ h₁

theorem and20 (x : Int) (h₀ : 0 ≤ x) (h₁ : x < 18446744073709551616) : Go.bits .and .u64 x 1048575 = x % 1048576 :=
  bits_mask .u64 64 (by decide) wraps_u64 20 (by decide) x h₀ h₁

theorem or2 (x y : Int) (h₀ : 0 ≤ x) (hx : x % 4 = 0) (h₁ : x < 18446744073709551616) (y₀ : 0 ≤ y) (y₁ : y < 4) : Go.bits .or .u64 x y = x + y :=
  bits_join .u64 64 (by decide) wraps_u64 2 x y h₀ hx h₁ y₀ y₁ (by omega)

theorem or20 (x y : Int) (h₀ : 0 ≤ x) (hx : x % 1048576 = 0) (h₁ : x < 18446744073709551616) (y₀ : 0 ≤ y) (y₁ : y < 1048576) : Go.bits .or .u64 x y = x + y :=
  bits_join .u64 64 (by decide) wraps_u64 20 x y h₀ hx h₁ y₀ y₁ (by omega)

theorem or40 (x y : Int) (h₀ : 0 ≤ x) (hx : x % 1099511627776 = 0) (h₁ : x < 18446744073709551616) (y₀ : 0 ≤ y) (y₁ : y < 1099511627776) : Go.bits .or .u64 x y = x + y :=
  bits_join .u64 64 (by decide) wraps_u64 40 x y h₀ hx h₁ y₀ y₁ (by omega)

/-- A state and what is done, as a word. -/
def pack (s i : Int) : Int := (i % 18446744073709551616 * 4) % 18446744073709551616 + s % 4

theorem pack_is (s i : Int) : Go.bits .or .u64 (IntKind.u64.wrap (IntKind.u64.wrap i * 4)) (Go.bits .and .u64 (IntKind.u64.wrap s) 3) = pack s i := by
  simp only [wrap_u64]
  rw [and3 _ (by omega) (by omega), or2 _ _ (by omega) (by omega) (by omega) (by omega) (by omega)]
  unfold pack; omega

/-- A head, as a word. -/
def head (s r h : Int) : Int := (s % 18446744073709551616 * 1099511627776) % 18446744073709551616 + r % 1048576 * 1048576 + h % 1048576

theorem head_is (s r h : Int) : Go.bits .or .u64 (Go.bits .or .u64 (IntKind.u64.wrap (IntKind.u64.wrap s * 1099511627776)) (IntKind.u64.wrap (Go.bits .and .u64 (IntKind.u64.wrap r) 1048575 * 1048576))) (Go.bits .and .u64 (IntKind.u64.wrap h) 1048575) = head s r h := by
  simp only [wrap_u64]
  rw [and20 (r % 18446744073709551616) (by omega) (by omega), and20 (h % 18446744073709551616) (by omega) (by omega)]
  have e1 := or40 (s % 18446744073709551616 * 1099511627776 % 18446744073709551616) (r % 18446744073709551616 % 1048576 * 1048576 % 18446744073709551616) (by omega) (by omega) (by omega) (by omega) (by omega)
  rw [e1, or20 _ _ (by omega) (by omega) (by omega) (by omega) (by omega)]
  unfold head; omega

theorem head_range (s r h : Int) : 0 ≤ head s r h ∧ head s r h < 18446744073709551616 := by unfold head; omega

theorem open_rev (w : Int) (h₀ : 0 ≤ w) (h₁ : w < 18446744073709551616) : wrap64 (Go.bits .and .u64 (w / 1048576) 1048575) = w / 1048576 % 1048576 := by
  rw [and20 _ (by omega) (by omega)]; unfold wrap64; omega

theorem open_hor (w : Int) (h₀ : 0 ≤ w) (h₁ : w < 18446744073709551616) : wrap64 (Go.bits .and .u64 w 1048575) = w % 1048576 := by
  rw [and20 _ (by omega) (by omega)]; unfold wrap64; omega

theorem open_seq (w : Int) (h₀ : 0 ≤ w) (h₁ : w < 18446744073709551616) : wrap64 (w / 1099511627776) = w / 1099511627776 := by
  unfold wrap64; omega

theorem state_is (w : Int) (h₀ : 0 ≤ w) (h₁ : w < 18446744073709551616) : wrap64 (Go.bits .and .u64 w 3) = w % 4 := by
  rw [and3 _ (by omega) (by omega)]; unfold wrap64; omega

theorem info_is (w : Int) (h₀ : 0 ≤ w) (h₁ : w < 18446744073709551616) : wrap64 (w / 4) = w / 4 := by
  unfold wrap64; omega

end Go.Proofs.Ytllibgjajlgnbab.Bits
