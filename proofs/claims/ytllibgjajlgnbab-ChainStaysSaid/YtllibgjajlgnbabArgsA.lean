/- Two slices of structs in an array that comes in. Over any program. -/
import Derived.Test.YtllibgjajlgnbabArgsV
import Derived.OpenShut
namespace Go.Proofs.Ytllibgjajlgnbab.Args
open Go Go.RowKit Go.ChangeShapes Go.Proofs.Ytllibgjajlgnbab.Only
set_option linter.unusedVariables false
variable {P : Program} {w : World} {base : Nat} {H : Type} {enc : TypeId × Value → H} {spare : Nat → Bool} {held : Bool}

theorem array2V {t e el : TypeId} {c0 c1 : Value} {d : DataW H} {p : List MemPlace} (ks : List Lf) (ht : P.underlying t = some (.array 2 e)) (hec : P.cellsOf e = 1) (hs : P.underlying e = some (.slice el)) (hc : P.cellsOf el = ks.length) (hpos : 0 < ks.length)
    (hf : ∀ (j : Nat) (k : Lf), ks[j]? = some k → Leaf P el j k) (hv0 : c0.cells.toList = [c0]) (hv1 : c1.cells.toList = [c1]) (h : DataW.Trod enc P w base spare held t (.agg #[c0, c1]) d p) :
    (∃ zs, StructsV ks w c0 zs) ∧ ∃ zs, StructsV ks w c1 zs := by
  obtain ⟨m, hm⟩ := h
  rw [show (Value.agg #[c0, c1]).cells.toList = [c0, c1] from rfl] at hm
  obtain ⟨xs, m', _, _, _, hxl, hx⟩ := DataW.trod_array ht hm
  have h0 := hx 0 (by omega)
  have h1 := hx 1 (by omega)
  rw [hec, List.getElem?_eq_getElem (by omega)] at h0 h1
  refine ⟨structsV (enc := enc) (base := base) (spare := spare) (held := held) (d := (xs[0]'(by omega)).1) (p := (xs[0]'(by omega)).2) ks hs hc hpos hf hv0 ⟨m', ?_⟩, structsV (enc := enc) (base := base) (spare := spare) (held := held) (d := (xs[1]'(by omega)).1) (p := (xs[1]'(by omega)).2) ks hs hc hpos hf hv1 ⟨m', ?_⟩⟩
  · rw [hv0]; exact h0
  · rw [hv1]; exact h1
end Go.Proofs.Ytllibgjajlgnbab.Args
