/- Slices that come in: their elements, cell by cell. Over any program. -/
import Derived.Test.YtllibgjajlgnbaaOnly
import Derived.ChangeSlices
import Derived.Carry
namespace Go.Proofs.Ytllibgjajlgnbaa.Args
open Go Go.RowKit Go.ChangeShapes Go.Proofs.Ytllibgjajlgnbaa.Only
set_option linter.unusedVariables false

/-- A slice of integers: what it reads in a world. -/
structure Ints (k : IntKind) (w : World) (v : Value) (zs : List Int) : Prop where
  shape : ∃ a cap, v = .slice a zs.length cap ∧ zs.length ≤ maxLen ∧ ∀ i, i < zs.length → ∃ x, a = some x ∧ x.block < w.heap.size ∧ w.cell? (x.add i) = some (.int k (zs.getD i 0))
  range : ∀ n ∈ zs, k.has n

theorem add_block (a : Addr) (i : Nat) : (a.add i).block = a.block := by unfold Addr.add; split <;> rfl
theorem wf_has {k : IntKind} {n : Int} (h : (Lit.int k n).wf = true) : k.has n := by
  simpa [Lit.wf, IntKind.has] using h

theorem Ints.below {k : IntKind} {w w' : World} {v : Value} {zs : List Int} (h : Ints k w v zs) (hb : Below w.heap.size w w') : Ints k w' v zs := by
  obtain ⟨⟨a, cap, hv, hl, hx⟩, hr⟩ := h
  refine ⟨⟨a, cap, hv, hl, fun i hi => ?_⟩, hr⟩
  obtain ⟨x, ha, hxb, hc⟩ := hx i hi
  exact ⟨x, ha, Nat.lt_of_lt_of_le hxb hb.size, (hb.cell (by rw [add_block]; exact hxb)).trans hc⟩

theorem ints {P : Program} {w : World} {base : Nat} {H : Type} {enc : TypeId × Value → H} {spare : Nat → Bool} {held : Bool} {t e : TypeId} {k : IntKind} {v : Value} {d : DataW H} {p : List MemPlace}
    (ht : P.underlying t = some (.slice e)) (he : P.underlying e = some (.int k)) (hc : P.cellsOf e = 1) (hv : v.cells.toList = [v]) (h : DataW.Trod enc P w base spare held t v d p) : ∃ zs, Ints k w v zs := by
  obtain ⟨m, hm⟩ := h
  rw [hv] at hm
  have hlt := DataW.trod_lt m _ _ _ hm
  rcases open_ints ht he hc hm with ⟨h1, h2⟩ | ⟨a, len, cap, zs, h1, hb, hl, hcm, hz, hx, hcell, hwf⟩
  · obtain rfl : v = .slice none 0 0 := by simpa using h1
    exact ⟨[], ⟨none, 0, rfl, by simp [maxLen], fun i hi => by simp at hi⟩, fun n hn => by simp at hn⟩
  · obtain rfl : v = .slice (some a) len cap := by simpa using h1
    have hlen : len ≤ zs.length := by rw [hz]; split <;> omega
    have hr : ∀ n ∈ zs, k.has n := fun n hn => wf_has (hwf n hn)
    refine ⟨zs.take len, ⟨some a, cap, by simp [Nat.min_eq_left hlen], by simp; omega, fun i hi => ?_⟩, fun n hn => hr n (List.mem_of_mem_take hn)⟩
    have hi' : i < len := by simp at hi; omega
    have hcc := hcell i (by omega)
    refine ⟨a, rfl, ?_, ?_⟩
    · have : (w.cell? (a.add i)).isSome := by rw [hcc]; rfl
      simp only [World.cell?] at this
      split at this
      · rename_i h; have := lt_of_heap h; rwa [add_block] at this
      · cases this
    · rw [hcc]
      simp [List.getD, hi']
end Go.Proofs.Ytllibgjajlgnbaa.Args
