/- Slices of structs of integers, booleans and strings, also nested ones, that come in: cell by cell. Over any program. -/
import Derived.Test.YtecjkpjcmgohmabArgs
namespace Go.Proofs.Ytecjkpjcmgohmab.Args
open Go Go.RowKit Go.ChangeShapes Go.Proofs.Ytecjkpjcmgohmab.Only
set_option linter.unusedVariables false

/-- What a cell may hold. -/
inductive Lf | int (k : IntKind) | bool | str
def LeafOk : Lf → Value → Prop
  | .int k, v => ∃ z, v = .int k z ∧ k.has z
  | .bool, v => ∃ b, v = .bool b
  | .str, v => ∃ s : ByteArray, v = .string s ∧ s.size ≤ maxLen

/-- Cell j of a type holds k. -/
inductive Leaf (P : Program) : TypeId → Nat → Lf → Prop
  | int {t : TypeId} {k : IntKind} (h : P.underlying t = some (.int k)) : Leaf P t 0 (.int k)
  | bool {t : TypeId} (h : P.underlying t = some .bool) : Leaf P t 0 .bool
  | str {t : TypeId} (h : P.underlying t = some .string) : Leaf P t 0 .str
  | field {t : TypeId} {fs : Array Field} {f : Field} {i j n : Nat} {k : Lf} (h : P.underlying t = some (.struct fs)) (hf : fs[i]? = some f) (hl : Leaf P f.type j k) (hj : j < P.cellsOf f.type) (hn : n = f.offset + j) : Leaf P t n k

variable {P : Program} {w : World} {base : Nat} {H : Type} {enc : TypeId × Value → H} {spare : Nat → Bool} {held : Bool}

theorem trod_leaf {t : TypeId} {j : Nat} {k : Lf} (hl : Leaf P t j k) : ∀ {n : Nat} {cs : List Value} {x : DataW H × List MemPlace}, DataW.trod enc P w base spare held n t cs = some x → ∃ v, cs[j]? = some v ∧ LeafOk k v := by
  induction hl with
  | int h =>
    intro n cs x hx
    obtain ⟨z, rfl, _, hw⟩ := DataW.trod_int h hx
    exact ⟨_, rfl, z, rfl, wf_has hw⟩
  | bool h =>
    intro n cs x hx
    obtain ⟨b, rfl, _⟩ := DataW.trod_bool h hx
    exact ⟨_, rfl, b, rfl⟩
  | str h =>
    intro n cs x hx
    obtain ⟨s, rfl, _, hs⟩ := DataW.trod_string h hx
    exact ⟨_, rfl, s, rfl, hs⟩
  | @field t fs f i j m k h hf hl hj hn ih =>
    intro n cs x hx
    obtain ⟨xs, n', _, _, hcl2, hxl, hx⟩ := DataW.trod_struct h hx
    have h3 := hx i f hf
    have hi : i < fs.size := (Array.getElem?_eq_some_iff.1 hf).1
    rw [List.getElem?_eq_getElem (by omega)] at h3
    obtain ⟨v, hv, hok⟩ := ih h3
    refine ⟨v, ?_, hok⟩
    rw [List.getElem?_take_of_lt hj, List.getElem?_drop] at hv
    rw [hn]; exact hv

/-- A slice of structs: what it reads in a world. -/
structure StructsV (ks : List Lf) (w : World) (v : Value) (zs : List (List Value)) : Prop where
  shape : ∃ a cap, v = .slice a zs.length cap ∧ zs.length ≤ maxLen ∧ ∀ i, i < zs.length → ∃ x, a = some x ∧ x.block < w.heap.size ∧ ∀ (j : Nat) (k : Lf), ks[j]? = some k → w.cell? ((x.add (i * ks.length)).add j) = some ((zs.getD i []).getD j (.bool false))
  ok : ∀ i, i < zs.length → ∀ (j : Nat) (k : Lf), ks[j]? = some k → LeafOk k ((zs.getD i []).getD j (.bool false))

theorem StructsV.below {ks : List Lf} {w w' : World} {v : Value} {zs : List (List Value)} (h : StructsV ks w v zs) (hb : Below w.heap.size w w') : StructsV ks w' v zs := by
  obtain ⟨⟨a, cap, hv, hl, hx⟩, hr⟩ := h
  refine ⟨⟨a, cap, hv, hl, fun i hi => ?_⟩, hr⟩
  obtain ⟨x, ha, hxb, hc⟩ := hx i hi
  exact ⟨x, ha, Nat.lt_of_lt_of_le hxb hb.size, fun j k hk => (hb.cell (by rw [add_block, add_block]; exact hxb)).trans (hc j k hk)⟩

theorem structsV {t e : TypeId} {v : Value} {d : DataW H} {p : List MemPlace} (ks : List Lf)
    (ht : P.underlying t = some (.slice e)) (hc : P.cellsOf e = ks.length) (hpos : 0 < ks.length)
    (hf : ∀ (j : Nat) (k : Lf), ks[j]? = some k → Leaf P e j k)
    (hv : v.cells.toList = [v]) (h : DataW.Trod enc P w base spare held t v d p) : ∃ zs, StructsV ks w v zs := by
  obtain ⟨m, hm⟩ := h
  rw [hv] at hm
  rcases DataW.trod_slice ht hm with ⟨h1, h2⟩ | ⟨a, len, cap, elems, rest, n, _, h1, h2, hb, hl, hcm, hlen, hel, _, _⟩
  · obtain rfl : v = .slice none 0 0 := by simpa using h1
    exact ⟨[], ⟨none, 0, rfl, by simp [maxLen], fun i hi => by simp at hi⟩, fun i hi => by simp at hi⟩
  · obtain rfl : v = .slice (some a) len cap := by simpa using h1
    have each : ∀ i, i < len → a.block < w.heap.size ∧ ∀ (j : Nat) (k : Lf), ks[j]? = some k → ∃ z, w.cell? ((a.add (i * ks.length)).add j) = some z ∧ LeafOk k z := by
      intro i hi
      have hy := hel i hi
      have hyi : i < elems.length := by omega
      rw [List.getElem?_eq_getElem hyi, Option.bind_eq_some_iff] at hy
      obtain ⟨cs, hcs, htr⟩ := hy
      have hblk := World.cells?_block hcs (by rw [hc]; exact hpos)
      obtain ⟨_, hcl, hcell⟩ := World.cells?_some hcs
      refine ⟨by rwa [add_block] at hblk, fun j k hk => ?_⟩
      have hj : j < ks.length := (List.getElem?_eq_some_iff.1 hk).1
      obtain ⟨z, hz, hok⟩ := trod_leaf (hf j k hk) htr
      refine ⟨z, ?_, hok⟩
      have h4 := hcell j (by omega)
      rw [hc] at h4
      rw [h4]; exact hz
    refine ⟨(List.range len).map (fun i => (List.range ks.length).map (fun j => (w.cell? ((a.add (i * ks.length)).add j)).getD (.bool false))), ⟨some a, cap, by simp, by simp; omega, fun i hi => ?_⟩, fun i hi j k hk => ?_⟩
    · have hi' : i < len := by simpa using hi
      refine ⟨a, rfl, (each i hi').1, fun j k hk => ?_⟩
      have hj : j < ks.length := (List.getElem?_eq_some_iff.1 hk).1
      obtain ⟨z, hz, _⟩ := (each i hi').2 j k hk
      rw [hz]
      simp [List.getD, hi', hj, hz]
    · have hi' : i < len := by simpa using hi
      have hj : j < ks.length := (List.getElem?_eq_some_iff.1 hk).1
      obtain ⟨z, hz, hh⟩ := (each i hi').2 j k hk
      simpa [List.getD, hi', hj, hz] using hh
end Go.Proofs.Ytecjkpjcmgohmab.Args
