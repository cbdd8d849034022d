/-
  No cell of these rows narrows 'for every input' (looked for: loops, veiled, ifaces, maps, wideKeys, modest, calm, conditions, laid).
  DERIVED. THE GIVEN ROWS OF THIS SEAT. 10 by the template 'for every input the law returns true; each argument reads behind the call as it read before'; 0 by the template 'total and deterministic' (their statements: YtllibgjajlgnbaaTotals.lean).
  GIVEN WITH THE SEED: the statements are not yours to turn. If you find one false, say at which input.
  Laid BY PROGRAM, IN A SANDBOX (cutbox-rows.mjs): the forced cells as the released guide's own fill.sh prints them over the translation 2ce6d3129596899c… (all of the seat's roots in one cut). By AI agents, Wed Nov 11 2026. No macro, syntax, notation, axiom, sorry.
-/
import Derived.Test.YtllibgjajlgnbaaChecked
import GoSem.Claim
import GoSem.ClaimJoined
import GoSem.ClaimMapViews
import Derived.JoinedTies
import Derived.KernelRfl
namespace Go.Proofs.Ytllibgjajlgnbaa
/- THE CELL 'sum', in the pinned program and in every row, IS THE sha256 OF THE DUMP (.gsa) THAT YtllibgjajlgnbaaProg.lean LOADS. Nothing in Lean hashes anything: it is a label: what it is worth is what the hold of that sum in a sandbox is worth. -/
noncomputable def Try.pinned : Pinned := { name := "ytllibgjajlgnbaa", sum := "2ce6d3129596899c0162e2c7f143ac809c06ff2618654b6bc3f33d618f544201", checked := Try.checked }
namespace Rows
def none {H : Type} : Left H := { results := [], args := [] }

/-- 'impostlaw01.MemAdds': WHATEVER THE INPUT: true; the input reads as it did. -/
def memAddsSpec : ChangeSpec := { name := "memAdds", fn := fun _ => fun
  | [d1, d2] => { results := [.lit (.bool true)], args := [d1, d2] }
  | _ => none }
def memAddsRow : OpenClaim := { program := "ytllibgjajlgnbaa", sum := "2ce6d3129596899c0162e2c7f143ac809c06ff2618654b6bc3f33d618f544201", func := "impost/impostlaw01.MemAdds", spec := "memAdds", apart := false }
def MemAddsSaid : Prop := memAddsRow.holds Try.pinned (OpenSpec.ofChange memAddsSpec)

/-- ITS FALSE NEIGHBOUR: 'it returns false'. Refute it at one input. -/
def memAddsWrong : ChangeSpec := { name := "memAdds", fn := fun _ => fun
  | [d1, d2] => { results := [.lit (.bool false)], args := [d1, d2] }
  | _ => none }
def MemAddsWrongFalsely : Prop := memAddsRow.holds Try.pinned (OpenSpec.ofChange memAddsWrong)

/-- 'impostlaw01.MemApart': WHATEVER THE INPUT: true; the input reads as it did. -/
def memApartSpec : ChangeSpec := { name := "memApart", fn := fun _ => fun
  | [d1, d2, d3] => { results := [.lit (.bool true)], args := [d1, d2, d3] }
  | _ => none }
def memApartRow : OpenClaim := { program := "ytllibgjajlgnbaa", sum := "2ce6d3129596899c0162e2c7f143ac809c06ff2618654b6bc3f33d618f544201", func := "impost/impostlaw01.MemApart", spec := "memApart", apart := false }
def MemApartSaid : Prop := memApartRow.holds Try.pinned (OpenSpec.ofChange memApartSpec)

/-- ITS FALSE NEIGHBOUR: 'it returns false'. Refute it at one input. -/
def memApartWrong : ChangeSpec := { name := "memApart", fn := fun _ => fun
  | [d1, d2, d3] => { results := [.lit (.bool false)], args := [d1, d2, d3] }
  | _ => none }
def MemApartWrongFalsely : Prop := memApartRow.holds Try.pinned (OpenSpec.ofChange memApartWrong)

/-- 'impostlaw01.MemOnce': WHATEVER THE INPUT: true; the input reads as it did. -/
def memOnceSpec : ChangeSpec := { name := "memOnce", fn := fun _ => fun
  | [d1, d2, d3] => { results := [.lit (.bool true)], args := [d1, d2, d3] }
  | _ => none }
def memOnceRow : OpenClaim := { program := "ytllibgjajlgnbaa", sum := "2ce6d3129596899c0162e2c7f143ac809c06ff2618654b6bc3f33d618f544201", func := "impost/impostlaw01.MemOnce", spec := "memOnce", apart := false }
def MemOnceSaid : Prop := memOnceRow.holds Try.pinned (OpenSpec.ofChange memOnceSpec)

/-- ITS FALSE NEIGHBOUR: 'it returns false'. Refute it at one input. -/
def memOnceWrong : ChangeSpec := { name := "memOnce", fn := fun _ => fun
  | [d1, d2, d3] => { results := [.lit (.bool false)], args := [d1, d2, d3] }
  | _ => none }
def MemOnceWrongFalsely : Prop := memOnceRow.holds Try.pinned (OpenSpec.ofChange memOnceWrong)

/-- 'impostlaw01.MemCounts': WHATEVER THE INPUT: true; the input reads as it did. -/
def memCountsSpec : ChangeSpec := { name := "memCounts", fn := fun _ => fun
  | [d1, d2] => { results := [.lit (.bool true)], args := [d1, d2] }
  | _ => none }
def memCountsRow : OpenClaim := { program := "ytllibgjajlgnbaa", sum := "2ce6d3129596899c0162e2c7f143ac809c06ff2618654b6bc3f33d618f544201", func := "impost/impostlaw01.MemCounts", spec := "memCounts", apart := false }
def MemCountsSaid : Prop := memCountsRow.holds Try.pinned (OpenSpec.ofChange memCountsSpec)

/-- ITS FALSE NEIGHBOUR: 'it returns false'. Refute it at one input. -/
def memCountsWrong : ChangeSpec := { name := "memCounts", fn := fun _ => fun
  | [d1, d2] => { results := [.lit (.bool false)], args := [d1, d2] }
  | _ => none }
def MemCountsWrongFalsely : Prop := memCountsRow.holds Try.pinned (OpenSpec.ofChange memCountsWrong)

/-- 'impostlaw02.SlabOnce': WHATEVER THE INPUT: true; the input reads as it did. -/
def slabOnceSpec : ChangeSpec := { name := "slabOnce", fn := fun _ => fun
  | [d] => { results := [.lit (.bool true)], args := [d] }
  | _ => none }
def slabOnceRow : OpenClaim := { program := "ytllibgjajlgnbaa", sum := "2ce6d3129596899c0162e2c7f143ac809c06ff2618654b6bc3f33d618f544201", func := "impost/impostlaw02.SlabOnce", spec := "slabOnce", apart := false }
def SlabOnceSaid : Prop := slabOnceRow.holds Try.pinned (OpenSpec.ofChange slabOnceSpec)

/-- ITS FALSE NEIGHBOUR: 'it returns false'. Refute it at one input. -/
def slabOnceWrong : ChangeSpec := { name := "slabOnce", fn := fun _ => fun
  | [d] => { results := [.lit (.bool false)], args := [d] }
  | _ => none }
def SlabOnceWrongFalsely : Prop := slabOnceRow.holds Try.pinned (OpenSpec.ofChange slabOnceWrong)

/-- 'impostlaw02.SlabApart': WHATEVER THE INPUT: true; the input reads as it did. -/
def slabApartSpec : ChangeSpec := { name := "slabApart", fn := fun _ => fun
  | [d] => { results := [.lit (.bool true)], args := [d] }
  | _ => none }
def slabApartRow : OpenClaim := { program := "ytllibgjajlgnbaa", sum := "2ce6d3129596899c0162e2c7f143ac809c06ff2618654b6bc3f33d618f544201", func := "impost/impostlaw02.SlabApart", spec := "slabApart", apart := false }
def SlabApartSaid : Prop := slabApartRow.holds Try.pinned (OpenSpec.ofChange slabApartSpec)

/-- ITS FALSE NEIGHBOUR: 'it returns false'. Refute it at one input. -/
def slabApartWrong : ChangeSpec := { name := "slabApart", fn := fun _ => fun
  | [d] => { results := [.lit (.bool false)], args := [d] }
  | _ => none }
def SlabApartWrongFalsely : Prop := slabApartRow.holds Try.pinned (OpenSpec.ofChange slabApartWrong)

/-- 'impostlaw02.SlabStale': WHATEVER THE INPUT: true; the input reads as it did. -/
def slabStaleSpec : ChangeSpec := { name := "slabStale", fn := fun _ => fun
  | [d1, d2, d3] => { results := [.lit (.bool true)], args := [d1, d2, d3] }
  | _ => none }
def slabStaleRow : OpenClaim := { program := "ytllibgjajlgnbaa", sum := "2ce6d3129596899c0162e2c7f143ac809c06ff2618654b6bc3f33d618f544201", func := "impost/impostlaw02.SlabStale", spec := "slabStale", apart := false }
def SlabStaleSaid : Prop := slabStaleRow.holds Try.pinned (OpenSpec.ofChange slabStaleSpec)

/-- ITS FALSE NEIGHBOUR: 'it returns false'. Refute it at one input. -/
def slabStaleWrong : ChangeSpec := { name := "slabStale", fn := fun _ => fun
  | [d1, d2, d3] => { results := [.lit (.bool false)], args := [d1, d2, d3] }
  | _ => none }
def SlabStaleWrongFalsely : Prop := slabStaleRow.holds Try.pinned (OpenSpec.ofChange slabStaleWrong)

/-- 'impostlaw02.SlabEdges': WHATEVER THE INPUT: true; the input reads as it did. -/
def slabEdgesSpec : ChangeSpec := { name := "slabEdges", fn := fun _ => fun
  | [d1, d2, d3] => { results := [.lit (.bool true)], args := [d1, d2, d3] }
  | _ => none }
def slabEdgesRow : OpenClaim := { program := "ytllibgjajlgnbaa", sum := "2ce6d3129596899c0162e2c7f143ac809c06ff2618654b6bc3f33d618f544201", func := "impost/impostlaw02.SlabEdges", spec := "slabEdges", apart := false }
def SlabEdgesSaid : Prop := slabEdgesRow.holds Try.pinned (OpenSpec.ofChange slabEdgesSpec)

/-- ITS FALSE NEIGHBOUR: 'it returns false'. Refute it at one input. -/
def slabEdgesWrong : ChangeSpec := { name := "slabEdges", fn := fun _ => fun
  | [d1, d2, d3] => { results := [.lit (.bool false)], args := [d1, d2, d3] }
  | _ => none }
def SlabEdgesWrongFalsely : Prop := slabEdgesRow.holds Try.pinned (OpenSpec.ofChange slabEdgesWrong)

/-- 'impostlaw02.SlabNew': WHATEVER THE INPUT: true; the input reads as it did. -/
def slabNewSpec : ChangeSpec := { name := "slabNew", fn := fun _ => fun
  | [d] => { results := [.lit (.bool true)], args := [d] }
  | _ => none }
def slabNewRow : OpenClaim := { program := "ytllibgjajlgnbaa", sum := "2ce6d3129596899c0162e2c7f143ac809c06ff2618654b6bc3f33d618f544201", func := "impost/impostlaw02.SlabNew", spec := "slabNew", apart := false }
def SlabNewSaid : Prop := slabNewRow.holds Try.pinned (OpenSpec.ofChange slabNewSpec)

/-- ITS FALSE NEIGHBOUR: 'it returns false'. Refute it at one input. -/
def slabNewWrong : ChangeSpec := { name := "slabNew", fn := fun _ => fun
  | [d] => { results := [.lit (.bool false)], args := [d] }
  | _ => none }
def SlabNewWrongFalsely : Prop := slabNewRow.holds Try.pinned (OpenSpec.ofChange slabNewWrong)

/-- 'impostlaw02.SlabPlays': WHATEVER THE INPUT: true; the input reads as it did. -/
def slabPlaysSpec : ChangeSpec := { name := "slabPlays", fn := fun _ => fun
  | [d1, d2, d3] => { results := [.lit (.bool true)], args := [d1, d2, d3] }
  | _ => none }
def slabPlaysRow : OpenClaim := { program := "ytllibgjajlgnbaa", sum := "2ce6d3129596899c0162e2c7f143ac809c06ff2618654b6bc3f33d618f544201", func := "impost/impostlaw02.SlabPlays", spec := "slabPlays", apart := false }
def SlabPlaysSaid : Prop := slabPlaysRow.holds Try.pinned (OpenSpec.ofChange slabPlaysSpec)

/-- ITS FALSE NEIGHBOUR: 'it returns false'. Refute it at one input. -/
def slabPlaysWrong : ChangeSpec := { name := "slabPlays", fn := fun _ => fun
  | [d1, d2, d3] => { results := [.lit (.bool false)], args := [d1, d2, d3] }
  | _ => none }
def SlabPlaysWrongFalsely : Prop := slabPlaysRow.holds Try.pinned (OpenSpec.ofChange slabPlaysWrong)

/- THE SECOND FORM. 'bulk': how many values and letters a reading holds, each counted each time it is reached (what is shared counts as often as it is met; a slice's spare places count too). A statement '..UptoSaid' is the law's where the arguments, and the package variables that the reading takes, are together of bulk at most 1048576: NARROWER than '..Said'. Prove '..Said' where nothing that the law and all that it calls make is longer than what came in: it says more and counts as full. Else prove '..UptoSaid'. A law counts once. -/
mutual
def uptoBulk {H : Type} : DataW H → Nat
  | .lit (.string bytes) => bytes.length + 1
  | .lit _ => 1
  | .nil => 1
  | .ptr d => uptoBulk d + 1
  | .slice elems spare => uptoBulkAll elems + uptoBulkAll spare + 1
  | .agg parts => uptoBulkAll parts + 1
  | .iface _ d => uptoBulk d + 1
  | .map entries => uptoBulkEntries entries + 1
  | .held _ => 1
def uptoBulkAll {H : Type} : List (DataW H) → Nat
  | [] => 0
  | d :: r => uptoBulk d + uptoBulkAll r
def uptoBulkEntries {H : Type} : List (Lit × DataW H) → Nat
  | [] => 0
  | x :: r => uptoBulkEntry x + uptoBulkEntries r
def uptoBulkEntry {H : Type} : Lit × DataW H → Nat
  | (.string bytes, d) => bytes.length + uptoBulk d + 1
  | (_, d) => uptoBulk d + 1
 end
def uptoSmall : (H : Type) → List (DataW H) → Bool := fun _ ds => decide (uptoBulkAll ds ≤ 1048576)
def OpenSpec.upto (s : _root_.Go.ChangeSpec) : _root_.Go.OpenSpec := { _root_.Go.OpenSpec.ofChange s with cond := some uptoSmall }

/-- 'impostlaw01.MemAdds', WHERE WHAT IT READS IS OF BULK AT MOST 1048576: true; the input reads as it did. -/
def memAddsUptoRow : OpenClaim := { program := "ytllibgjajlgnbaa", sum := "2ce6d3129596899c0162e2c7f143ac809c06ff2618654b6bc3f33d618f544201", func := "impost/impostlaw01.MemAdds", spec := "memAdds", apart := false, narrowed := true }
def MemAddsUptoSaid : Prop := memAddsUptoRow.holds Try.pinned (OpenSpec.upto memAddsSpec)

/-- 'impostlaw01.MemApart', WHERE WHAT IT READS IS OF BULK AT MOST 1048576: true; the input reads as it did. -/
def memApartUptoRow : OpenClaim := { program := "ytllibgjajlgnbaa", sum := "2ce6d3129596899c0162e2c7f143ac809c06ff2618654b6bc3f33d618f544201", func := "impost/impostlaw01.MemApart", spec := "memApart", apart := false, narrowed := true }
def MemApartUptoSaid : Prop := memApartUptoRow.holds Try.pinned (OpenSpec.upto memApartSpec)

/-- 'impostlaw01.MemOnce', WHERE WHAT IT READS IS OF BULK AT MOST 1048576: true; the input reads as it did. -/
def memOnceUptoRow : OpenClaim := { program := "ytllibgjajlgnbaa", sum := "2ce6d3129596899c0162e2c7f143ac809c06ff2618654b6bc3f33d618f544201", func := "impost/impostlaw01.MemOnce", spec := "memOnce", apart := false, narrowed := true }
def MemOnceUptoSaid : Prop := memOnceUptoRow.holds Try.pinned (OpenSpec.upto memOnceSpec)

/-- 'impostlaw01.MemCounts', WHERE WHAT IT READS IS OF BULK AT MOST 1048576: true; the input reads as it did. -/
def memCountsUptoRow : OpenClaim := { program := "ytllibgjajlgnbaa", sum := "2ce6d3129596899c0162e2c7f143ac809c06ff2618654b6bc3f33d618f544201", func := "impost/impostlaw01.MemCounts", spec := "memCounts", apart := false, narrowed := true }
def MemCountsUptoSaid : Prop := memCountsUptoRow.holds Try.pinned (OpenSpec.upto memCountsSpec)

/-- 'impostlaw02.SlabOnce', WHERE WHAT IT READS IS OF BULK AT MOST 1048576: true; the input reads as it did. -/
def slabOnceUptoRow : OpenClaim := { program := "ytllibgjajlgnbaa", sum := "2ce6d3129596899c0162e2c7f143ac809c06ff2618654b6bc3f33d618f544201", func := "impost/impostlaw02.SlabOnce", spec := "slabOnce", apart := false, narrowed := true }
def SlabOnceUptoSaid : Prop := slabOnceUptoRow.holds Try.pinned (OpenSpec.upto slabOnceSpec)

/-- 'impostlaw02.SlabApart', WHERE WHAT IT READS IS OF BULK AT MOST 1048576: true; the input reads as it did. -/
def slabApartUptoRow : OpenClaim := { program := "ytllibgjajlgnbaa", sum := "2ce6d3129596899c0162e2c7f143ac809c06ff2618654b6bc3f33d618f544201", func := "impost/impostlaw02.SlabApart", spec := "slabApart", apart := false, narrowed := true }
def SlabApartUptoSaid : Prop := slabApartUptoRow.holds Try.pinned (OpenSpec.upto slabApartSpec)

/-- 'impostlaw02.SlabStale', WHERE WHAT IT READS IS OF BULK AT MOST 1048576: true; the input reads as it did. -/
def slabStaleUptoRow : OpenClaim := { program := "ytllibgjajlgnbaa", sum := "2ce6d3129596899c0162e2c7f143ac809c06ff2618654b6bc3f33d618f544201", func := "impost/impostlaw02.SlabStale", spec := "slabStale", apart := false, narrowed := true }
def SlabStaleUptoSaid : Prop := slabStaleUptoRow.holds Try.pinned (OpenSpec.upto slabStaleSpec)

/-- 'impostlaw02.SlabEdges', WHERE WHAT IT READS IS OF BULK AT MOST 1048576: true; the input reads as it did. -/
def slabEdgesUptoRow : OpenClaim := { program := "ytllibgjajlgnbaa", sum := "2ce6d3129596899c0162e2c7f143ac809c06ff2618654b6bc3f33d618f544201", func := "impost/impostlaw02.SlabEdges", spec := "slabEdges", apart := false, narrowed := true }
def SlabEdgesUptoSaid : Prop := slabEdgesUptoRow.holds Try.pinned (OpenSpec.upto slabEdgesSpec)

/-- 'impostlaw02.SlabNew', WHERE WHAT IT READS IS OF BULK AT MOST 1048576: true; the input reads as it did. -/
def slabNewUptoRow : OpenClaim := { program := "ytllibgjajlgnbaa", sum := "2ce6d3129596899c0162e2c7f143ac809c06ff2618654b6bc3f33d618f544201", func := "impost/impostlaw02.SlabNew", spec := "slabNew", apart := false, narrowed := true }
def SlabNewUptoSaid : Prop := slabNewUptoRow.holds Try.pinned (OpenSpec.upto slabNewSpec)

/-- 'impostlaw02.SlabPlays', WHERE WHAT IT READS IS OF BULK AT MOST 1048576: true; the input reads as it did. -/
def slabPlaysUptoRow : OpenClaim := { program := "ytllibgjajlgnbaa", sum := "2ce6d3129596899c0162e2c7f143ac809c06ff2618654b6bc3f33d618f544201", func := "impost/impostlaw02.SlabPlays", spec := "slabPlays", apart := false, narrowed := true }
def SlabPlaysUptoSaid : Prop := slabPlaysUptoRow.holds Try.pinned (OpenSpec.upto slabPlaysSpec)

end Rows
end Go.Proofs.Ytllibgjajlgnbaa
