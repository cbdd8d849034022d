/- Slices that come in: their elements, cell by cell. Over any program. -/
import Derived.Test.YtecjkpjcmgohmabOnly
import Derived.ChangeSlices
import Derived.Carry
namespace Go.Proofs.Ytecjkpjcmgohmab.Args
open Go Go.RowKit Go.ChangeShapes Go.Proofs.Ytecjkpjcmgohmab.Only
set_option linter.unusedVariables false

/-- A slice of integers: what it reads in a world. -/
structure Ints (k : IntKind) (w : World) (v : Value) (zs : List Int) : Prop where
  shape : ∃ a cap, v = .slice a zs.length cap ∧ zs.length ≤ maxLen ∧ ∀ i, i < zs.length → ∃ x, a = some x ∧ x.block < w.heap.size ∧ w.cell? (x.add i) = some (.int k (zs.getD i 0))
  range : ∀ n ∈ zs, k.has n

theorem add_block (a : Addr) (i : Nat) : (a.add i).block = a.block := by unfold Addr.add; split <;> rfl
theorem wf_has {k : IntKind} {n : Int} (h : (Lit.int k n).wf = true) : k.has n := by
  simpa [Lit.wf, IntKind.has] using h

theorem Ints.below {k : IntKind} {w w' : World} {v : Value} {zs : List Int} (h : Ints k w v zs) (hb : Below w.heap.size w w') : Ints k w' v zs := by
  obtain ⟨⟨a, cap, hv, hl, hx⟩, hr⟩ := h
  refine ⟨⟨a, cap, hv, hl, fun i hi => ?_⟩, hr⟩
  obtain ⟨x, ha, hxb, hc⟩ := hx i hi
  exact ⟨x, ha, Nat.lt_of_lt_of_le hxb hb.size, (hb.cell (by rw [add_block]; exact hxb)).trans hc⟩

theorem ints {P : Program} {w : World} {base : Nat} {H : Type} {enc : TypeId × Value → H} {spare : Nat → Bool} {held : Bool} {t e : TypeId} {k : IntKind} {v : Value} {d : DataW H} {p : List MemPlace}
    (ht : P.underlying t = some (.slice e)) (he : P.underlying e = some (.int k)) (hc : P.cellsOf e = 1) (hv : v.cells.toList = [v]) (h : DataW.Trod enc P w base spare held t v d p) : ∃ zs, Ints k w v zs := by
  obtain ⟨m, hm⟩ := h
  rw [hv] at hm
  have hlt := DataW.trod_lt m _ _ _ hm
  rcases open_ints ht he hc hm with ⟨h1, h2⟩ | ⟨a, len, cap, zs, h1, hb, hl, hcm, hz, hx, hcell, hwf⟩
  · obtain rfl : v = .slice none 0 0 := by simpa using h1
    exact ⟨[], ⟨none, 0, rfl, by simp [maxLen], fun i hi => by simp at hi⟩, fun n hn => by simp at hn⟩
  · obtain rfl : v = .slice (some a) len cap := by simpa using h1
    have hlen : len ≤ zs.length := by rw [hz]; split <;> omega
    have hr : ∀ n ∈ zs, k.has n := fun n hn => wf_has (hwf n hn)
    refine ⟨zs.take len, ⟨some a, cap, by simp [Nat.min_eq_left hlen], by simp; omega, fun i hi => ?_⟩, fun n hn => hr n (List.mem_of_mem_take hn)⟩
    have hi' : i < len := by simp at hi; omega
    have hcc := hcell i (by omega)
    refine ⟨a, rfl, ?_, ?_⟩
    · have : (w.cell? (a.add i)).isSome := by rw [hcc]; rfl
      simp only [World.cell?] at this
      split at this
      · rename_i h; have := lt_of_heap h; rwa [add_block] at this
      · cases this
    · rw [hcc]
      simp [List.getD, hi']

/-- A slice of structs of integers: what it reads in a world. -/
structure Structs (ks : List IntKind) (w : World) (v : Value) (zs : List (List Int)) : Prop where
  shape : ∃ a cap, v = .slice a zs.length cap ∧ zs.length ≤ maxLen ∧ ∀ i, i < zs.length → ∃ x, a = some x ∧ x.block < w.heap.size ∧ ∀ (j : Nat) (k : IntKind), ks[j]? = some k → w.cell? ((x.add (i * ks.length)).add j) = some (.int k ((zs.getD i []).getD j 0))
  range : ∀ i, i < zs.length → ∀ (j : Nat) (k : IntKind), ks[j]? = some k → k.has ((zs.getD i []).getD j 0)

def numAt : Option Value → Int
  | some (.int _ n) => n
  | _ => 0

theorem structs {P : Program} {w : World} {base : Nat} {H : Type} {enc : TypeId × Value → H} {spare : Nat → Bool} {held : Bool} {t e : TypeId} {v : Value} {d : DataW H} {p : List MemPlace} {fs : Array Field} (ks : List IntKind)
    (ht : P.underlying t = some (.slice e)) (hs : P.underlying e = some (.struct fs)) (hc : P.cellsOf e = ks.length) (hpos : 0 < ks.length) (hfs : fs.size = ks.length)
    (hf : ∀ (j : Nat) (k : IntKind), ks[j]? = some k → ∃ f, fs[j]? = some f ∧ f.offset = j ∧ P.underlying f.type = some (.int k) ∧ P.cellsOf f.type = 1)
    (hv : v.cells.toList = [v]) (h : DataW.Trod enc P w base spare held t v d p) : ∃ zs, Structs ks w v zs := by
  obtain ⟨m, hm⟩ := h
  rw [hv] at hm
  rcases DataW.trod_slice ht hm with ⟨h1, h2⟩ | ⟨a, len, cap, elems, rest, n, _, h1, h2, hb, hl, hcm, hlen, hel, _, _⟩
  · obtain rfl : v = .slice none 0 0 := by simpa using h1
    exact ⟨[], ⟨none, 0, rfl, by simp [maxLen], fun i hi => by simp at hi⟩, fun i hi => by simp at hi⟩
  · obtain rfl : v = .slice (some a) len cap := by simpa using h1
    have each : ∀ i, i < len → a.block < w.heap.size ∧ ∀ (j : Nat) (k : IntKind), ks[j]? = some k → ∃ z, w.cell? ((a.add (i * ks.length)).add j) = some (.int k z) ∧ k.has z := by
      intro i hi
      have hy := hel i hi
      have hyi : i < elems.length := by omega
      rw [List.getElem?_eq_getElem hyi, Option.bind_eq_some_iff] at hy
      obtain ⟨cs, hcs, htr⟩ := hy
      have hblk := World.cells?_block hcs (by rw [hc]; exact hpos)
      obtain ⟨_, hcl, hcell⟩ := World.cells?_some hcs
      obtain ⟨xs, n', _, _, hcl2, hxl, hx⟩ := DataW.trod_struct hs htr
      refine ⟨by rwa [add_block] at hblk, fun j k hk => ?_⟩
      obtain ⟨f, hfj, hoff, hu, hc1⟩ := hf j k hk
      have hj : j < ks.length := (List.getElem?_eq_some_iff.1 hk).1
      have h3 := hx j f hfj
      rw [List.getElem?_eq_getElem (by omega)] at h3
      obtain ⟨z, hz, _, hw⟩ := DataW.trod_int hu h3
      refine ⟨z, ?_, wf_has hw⟩
      have h4 := hcell j (by omega)
      rw [hc] at h4
      rw [h4]
      rw [hoff, hc1] at hz
      have h5 : (cs.drop j)[0]? = some (.int k z) := by
        have := congrArg (fun l => l[0]?) hz
        simpa [List.getElem?_take] using this
      simpa using h5
    refine ⟨(List.range len).map (fun i => (List.range ks.length).map (fun j => numAt (w.cell? ((a.add (i * ks.length)).add j)))), ⟨some a, cap, by simp, by simp; omega, fun i hi => ?_⟩, fun i hi j k hk => ?_⟩
    · have hi' : i < len := by simpa using hi
      refine ⟨a, rfl, (each i hi').1, fun j k hk => ?_⟩
      have hj : j < ks.length := (List.getElem?_eq_some_iff.1 hk).1
      obtain ⟨z, hz, _⟩ := (each i hi').2 j k hk
      rw [hz]
      simp [List.getD, hi', hj, hz, numAt]
    · have hi' : i < len := by simpa using hi
      have hj : j < ks.length := (List.getElem?_eq_some_iff.1 hk).1
      obtain ⟨z, hz, hh⟩ := (each i hi').2 j k hk
      simpa [List.getD, hi', hj, hz, numAt] using hh
end Go.Proofs.Ytecjkpjcmgohmab.Args
