/- The laws: the pool alone, behind deeds. -/
import Derived.Test.YtecjkpjcmgohmacEpLaw
namespace Go.Proofs.Ytecjkpjcmgohmac.EpDo
open Go Go.RowKit Go.Maps Go.Proofs.Ytecjkpjcmgohmac.Only Go.Proofs.Ytecjkpjcmgohmac.Ep Go.Proofs.Ytecjkpjcmgohmac.EpRef Go.Proofs.Ytecjkpjcmgohmac.Args
set_option linter.unusedVariables false
set_option linter.unusedSimpArgs false

/-- The pool with its bounds. -/
structure Pl (W0 : World) (pb mb : Nat) (vin : Value) (n : Nat) (inn : List Int) (ep : Int) (G : List Grp) (w : World) : Prop where
  p : PoolR W0.heap.size pb mb vin inn ep G w
  b : PB 4 n inn ep G
  bel : Below W0.heap.size W0 w
section
variable {W0 : World} {pb mb : Nat} {vin : Value} {n : Nat} {inn inn2 : List Int} {ep ep2 : Int} {G G2 : List Grp} {w w' w4 w5 : World}
theorem Pl.next (h : Pl W0 pb mb vin n inn ep G w) (p : PoolR W0.heap.size pb mb vin inn2 ep2 G2 w') (o : Only (PoolF pb mb vin G) w w') {m : Nat} (b : PB 4 m inn2 ep2 G2) : Pl W0 pb mb vin m inn2 ep2 G2 w' :=
  ⟨p, b, h.bel.trans (poolB h.p o h.bel.size)⟩
theorem Pl.below (h : Pl W0 pb mb vin n inn ep G w) (b : Below w.heap.size w w') : Pl W0 pb mb vin n inn ep G w' :=
  ⟨h.p.below b, h.b, h.bel.trans (b.mono h.bel.size)⟩
theorem Pl.mono (h : Pl W0 pb mb vin n inn ep G w) {m : Nat} (hm : n ≤ m) : Pl W0 pb mb vin m inn ep G w := ⟨h.p, h.b.mono hm, h.bel⟩
/-- With a new reference. -/
theorem Pl.fresh {vI vR : Value} (h : Pl W0 pb mb vin n inn ep G w) (b4 : Below w.heap.size w w4) (r4 : RefP w.heap.size vI (newI 4) vR [] w4) : BothR W0.heap.size pb mb vin inn ep G vI vR (newI 4) [] w4 :=
  ⟨h.p.below b4, r4.mono h.bel.size, fun k hk e => by
    have h1 := (h.p.low k hk).2
    have h2 := (ref_low r4 k e).1
    omega⟩
theorem Pl.step {d : Dd} {vI vR : Value} {rin : List Int} {R : List (Int × Int)} (h : Pl W0 pb mb vin n inn ep G w4) (hs : Sp d inn ep G inn2 ep2 G2) (b5 : BothR W0.heap.size pb mb vin inn2 ep2 G2 vI vR rin R w5) (o : Only (PoolF pb mb vin G) w4 w5) : Pl W0 pb mb vin (n + 1) inn2 ep2 G2 w5 :=
  h.next b5.pool o (PB.step h.b h.p.asc hs)
end
end Go.Proofs.Ytecjkpjcmgohmac.EpDo
