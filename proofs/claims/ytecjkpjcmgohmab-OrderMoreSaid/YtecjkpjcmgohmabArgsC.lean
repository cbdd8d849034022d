/- A slice that comes in is no longer than its capacity. Over any program. -/
import Derived.Test.YtecjkpjcmgohmabArgsV
namespace Go.Proofs.Ytecjkpjcmgohmab.Args
open Go Go.RowKit Go.ChangeShapes Go.Proofs.Ytecjkpjcmgohmab.Only
variable {P : Program} {w : World} {base : Nat} {H : Type} {enc : TypeId × Value → H} {spare : Nat → Bool} {held : Bool}
theorem structsVc {t e : TypeId} {v : Value} {d : DataW H} {p : List MemPlace} (ks : List Lf)
    (ht : P.underlying t = some (.slice e)) (hc : P.cellsOf e = ks.length) (hpos : 0 < ks.length)
    (hf : ∀ (j : Nat) (k : Lf), ks[j]? = some k → Leaf P e j k)
    (hv : v.cells.toList = [v]) (h : DataW.Trod enc P w base spare held t v d p) : ∃ zs, StructsV ks w v zs ∧ ∀ a n cap, v = .slice a n cap → n ≤ cap := by
  obtain ⟨zs, hz⟩ := structsV ks ht hc hpos hf hv h
  refine ⟨zs, hz, fun a n cap e => ?_⟩
  obtain ⟨m, hm⟩ := h
  rw [hv] at hm
  rcases DataW.trod_slice ht hm with ⟨h1, h2⟩ | ⟨a', len, cap', elems, rest, n', _, h1, h2, hb, hl, _⟩
  · obtain rfl : v = .slice none 0 0 := by simpa using h1
    injection e with _ e1 e2
    omega
  · obtain rfl : v = .slice (some a') len cap' := by simpa using h1
    injection e with _ e1 e2
    omega
end Go.Proofs.Ytecjkpjcmgohmab.Args
