/- What an argument that may come in looks like: numbers in their bounds, strings, and structs and arrays of those, cell by cell. Over any program. -/
import Derived.WalkKit
import Derived.ProofKit
import Derived.OpenShut
import Derived.Below
import Derived.SizedLaws
namespace Go.Proofs.Ytecjkpjcmgohmab.Open
open Go Go.RowKit
variable {P : Program} {w : World} {r : Reach} {base : Nat} {t : TypeId} {v : Value}

theorem cell_int {k : IntKind} (ht : P.underlying t = some (.int k)) (h : Cell.okWide P w r base t v) : ∃ n, v = .int k n ∧ k.has n := by
  simp only [Cell.okWide, ht] at h
  cases v <;> simp_all [Cell.ok]

theorem cell_bool (ht : P.underlying t = some .bool) (h : Cell.okWide P w r base t v) : ∃ b, v = .bool b := by
  simp only [Cell.okWide, ht] at h
  cases v <;> simp_all [Cell.ok]

theorem cell_string (ht : P.underlying t = some .string) (h : Cell.okWide P w r base t v) : ∃ s, v = .string s ∧ s.size ≤ 9223372036854775807 := by
  simp only [Cell.okWide, ht] at h
  have h2 : IntKind.i64.max = 9223372036854775807 := rfl
  cases v <;> simp_all [Cell.ok]
  omega

theorem cell_slice {e : TypeId} (ht : P.underlying t = some (.slice e)) (h : Cell.okWide P w r base t v) : ∃ a len cap, v = .slice a len cap := by
  simp only [Cell.okWide, ht] at h
  cases v <;> simp_all [Cell.ok]

theorem val_int {k : IntKind} (ht : P.underlying t = some (.int k)) (h : Value.okWide P w r base t v) : ∃ n, v = .int k n ∧ k.has n := by
  apply cell_int ht
  simpa [Value.okWide, ht] using h

theorem val_bool (ht : P.underlying t = some .bool) (h : Value.okWide P w r base t v) : ∃ b, v = .bool b := by
  apply cell_bool ht (w := w) (r := r) (base := base)
  simpa [Value.okWide, ht] using h

theorem val_string (ht : P.underlying t = some .string) (h : Value.okWide P w r base t v) : ∃ s, v = .string s ∧ s.size ≤ 9223372036854775807 := by
  apply cell_string ht (w := w) (r := r) (base := base)
  simpa [Value.okWide, ht] using h

theorem has_i64 {n : Int} (h : IntKind.i64.has n) : -9223372036854775808 ≤ n ∧ n ≤ 9223372036854775807 := h
theorem has_u64 {n : Int} (h : IntKind.u64.has n) : 0 ≤ n ∧ n ≤ 18446744073709551615 := h
theorem has_u32 {n : Int} (h : IntKind.u32.has n) : 0 ≤ n ∧ n ≤ 4294967295 := h
theorem has_u16 {n : Int} (h : IntKind.u16.has n) : 0 ≤ n ∧ n ≤ 65535 := h
theorem has_u8 {n : Int} (h : IntKind.u8.has n) : 0 ≤ n ∧ n ≤ 255 := h

/-- A struct or an array by value: as many cells as its type has, each a cell of its own type. -/
theorem agg {ts : List TypeId} (hu : (∃ fs, P.underlying t = some (.struct fs)) ∨ ∃ n e, P.underlying t = some (.array n e)) (hc : P.cellTypes P.depth t = some ts) (hs : P.cellsOf t = ts.length)
    (h : Value.okWide P w r base t v) : ∃ cs : List Value, v = .agg ⟨cs⟩ ∧ cs.length = ts.length ∧ ∀ (i : Nat) (c : Value) (u : TypeId), cs[i]? = some c → ts[i]? = some u → Cell.okWide P w r base u c := by
  have h' : ∃ cs, v = .agg cs ∧ cs.size = P.cellsOf t ∧ Row.okWide P w r base t cs := by
    rcases hu with ⟨fs, hu⟩ | ⟨n, e, hu⟩ <;> simpa [Value.okWide, hu] using h
  obtain ⟨⟨cs⟩, rfl, hz, ts', ht', _, hx⟩ := h'
  rw [hc] at ht'
  cases ht'
  have hl : cs.length = ts.length := by simpa [hs] using hz
  refine ⟨cs, rfl, hl, fun i c u hi hu' => ?_⟩
  obtain ⟨u', h1, h2⟩ := hx i c (by simpa using hi)
  have hi' : i < cs.length := (List.getElem?_eq_some_iff.1 hi).1
  rw [Nat.mod_eq_of_lt (by omega), hu'] at h1
  cases h1
  exact h2

theorem agg2 {t0 t1 : TypeId} (hu : (∃ fs, P.underlying t = some (.struct fs)) ∨ ∃ n e, P.underlying t = some (.array n e)) (hc : P.cellTypes P.depth t = some [t0, t1]) (hs : P.cellsOf t = 2)
    (h : Value.okWide P w r base t v) : ∃ c0 c1, v = .agg #[c0, c1] ∧ Cell.okWide P w r base t0 c0 ∧ Cell.okWide P w r base t1 c1 := by
  obtain ⟨cs, rfl, hl, hx⟩ := agg hu hc hs h
  match cs, hl with
  | [c0, c1], _ => exact ⟨c0, c1, rfl, hx 0 _ _ rfl rfl, hx 1 _ _ rfl rfl⟩

theorem agg3 {t0 t1 t2 : TypeId} (hu : (∃ fs, P.underlying t = some (.struct fs)) ∨ ∃ n e, P.underlying t = some (.array n e)) (hc : P.cellTypes P.depth t = some [t0, t1, t2]) (hs : P.cellsOf t = 3)
    (h : Value.okWide P w r base t v) : ∃ c0 c1 c2, v = .agg #[c0, c1, c2] ∧ Cell.okWide P w r base t0 c0 ∧ Cell.okWide P w r base t1 c1 ∧ Cell.okWide P w r base t2 c2 := by
  obtain ⟨cs, rfl, hl, hx⟩ := agg hu hc hs h
  match cs, hl with
  | [c0, c1, c2], _ => exact ⟨c0, c1, c2, rfl, hx 0 _ _ rfl rfl, hx 1 _ _ rfl rfl, hx 2 _ _ rfl rfl⟩

theorem agg4 {t0 t1 t2 t3 : TypeId} (hu : (∃ fs, P.underlying t = some (.struct fs)) ∨ ∃ n e, P.underlying t = some (.array n e)) (hc : P.cellTypes P.depth t = some [t0, t1, t2, t3]) (hs : P.cellsOf t = 4)
    (h : Value.okWide P w r base t v) : ∃ c0 c1 c2 c3, v = .agg #[c0, c1, c2, c3] ∧ Cell.okWide P w r base t0 c0 ∧ Cell.okWide P w r base t1 c1 ∧ Cell.okWide P w r base t2 c2 ∧ Cell.okWide P w r base t3 c3 := by
  obtain ⟨cs, rfl, hl, hx⟩ := agg hu hc hs h
  match cs, hl with
  | [c0, c1, c2, c3], _ => exact ⟨c0, c1, c2, c3, rfl, hx 0 _ _ rfl rfl, hx 1 _ _ rfl rfl, hx 2 _ _ rfl rfl, hx 3 _ _ rfl rfl⟩

theorem agg5 {t0 t1 t2 t3 t4 : TypeId} (hu : (∃ fs, P.underlying t = some (.struct fs)) ∨ ∃ n e, P.underlying t = some (.array n e)) (hc : P.cellTypes P.depth t = some [t0, t1, t2, t3, t4]) (hs : P.cellsOf t = 5)
    (h : Value.okWide P w r base t v) : ∃ c0 c1 c2 c3 c4, v = .agg #[c0, c1, c2, c3, c4] ∧ Cell.okWide P w r base t0 c0 ∧ Cell.okWide P w r base t1 c1 ∧ Cell.okWide P w r base t2 c2 ∧ Cell.okWide P w r base t3 c3 ∧ Cell.okWide P w r base t4 c4 := by
  obtain ⟨cs, rfl, hl, hx⟩ := agg hu hc hs h
  match cs, hl with
  | [c0, c1, c2, c3, c4], _ => exact ⟨c0, c1, c2, c3, c4, rfl, hx 0 _ _ rfl rfl, hx 1 _ _ rfl rfl, hx 2 _ _ rfl rfl, hx 3 _ _ rfl rfl, hx 4 _ _ rfl rfl⟩
end Go.Proofs.Ytecjkpjcmgohmab.Open
