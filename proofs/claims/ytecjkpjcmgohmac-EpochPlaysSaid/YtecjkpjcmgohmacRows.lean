/-
  No cell of these rows narrows 'for every input' (looked for: loops, veiled, ifaces, maps, wideKeys, modest, calm, conditions, laid).
  DERIVED. THE GIVEN ROWS OF THIS SEAT. 6 by the template 'for every input the law returns true; each argument reads behind the call as it read before'; 0 by the template 'total and deterministic' (their statements: YtecjkpjcmgohmacTotals.lean).
  GIVEN WITH THE SEED: the statements are not yours to turn. If you find one false, say at which input.
  Laid BY PROGRAM, IN A SANDBOX (cutbox-rows.mjs): the forced cells as the released guide's own fill.sh prints them over the translation 6e96cd8b3f8eff89… (all of the seat's roots in one cut). By AI agents, Wed Nov 11 2026. No macro, syntax, notation, axiom, sorry.
-/
import Derived.Test.YtecjkpjcmgohmacChecked
import GoSem.Claim
import GoSem.ClaimJoined
import GoSem.ClaimMapViews
import Derived.JoinedTies
import Derived.KernelRfl
namespace Go.Proofs.Ytecjkpjcmgohmac
/- THE CELL 'sum', in the pinned program and in every row, IS THE sha256 OF THE DUMP (.gsa) THAT YtecjkpjcmgohmacProg.lean LOADS. Nothing in Lean hashes anything: it is a label: what it is worth is what the hold of that sum in a sandbox is worth. -/
noncomputable def Try.pinned : Pinned := { name := "ytecjkpjcmgohmac", sum := "6e96cd8b3f8eff8958c2dce2d89d40da3ac27a2040012090ba5e4cfc341d1a33", checked := Try.checked }
namespace Rows
def none {H : Type} : Left H := { results := [], args := [] }

/-- 'impostlaw03.EpochSlow': WHATEVER THE INPUT: true; the input reads as it did. -/
def epochSlowSpec : ChangeSpec := { name := "epochSlow", fn := fun _ => fun
  | [d1, d2, d3] => { results := [.lit (.bool true)], args := [d1, d2, d3] }
  | _ => none }
def epochSlowRow : OpenClaim := { program := "ytecjkpjcmgohmac", sum := "6e96cd8b3f8eff8958c2dce2d89d40da3ac27a2040012090ba5e4cfc341d1a33", func := "impost/impostlaw03.EpochSlow", spec := "epochSlow", unfollowed := true, recurses := true, apart := false }
def EpochSlowSaid : Prop := epochSlowRow.holds Try.pinned (OpenSpec.ofChange epochSlowSpec)

/-- ITS FALSE NEIGHBOUR: 'it returns false'. Refute it at one input. -/
def epochSlowWrong : ChangeSpec := { name := "epochSlow", fn := fun _ => fun
  | [d1, d2, d3] => { results := [.lit (.bool false)], args := [d1, d2, d3] }
  | _ => none }
def EpochSlowWrongFalsely : Prop := epochSlowRow.holds Try.pinned (OpenSpec.ofChange epochSlowWrong)

/-- 'impostlaw03.EpochNobody': WHATEVER THE INPUT: true; the input reads as it did. -/
def epochNobodySpec : ChangeSpec := { name := "epochNobody", fn := fun _ => fun
  | [d1, d2] => { results := [.lit (.bool true)], args := [d1, d2] }
  | _ => none }
def epochNobodyRow : OpenClaim := { program := "ytecjkpjcmgohmac", sum := "6e96cd8b3f8eff8958c2dce2d89d40da3ac27a2040012090ba5e4cfc341d1a33", func := "impost/impostlaw03.EpochNobody", spec := "epochNobody", unfollowed := true, recurses := true, apart := false }
def EpochNobodySaid : Prop := epochNobodyRow.holds Try.pinned (OpenSpec.ofChange epochNobodySpec)

/-- ITS FALSE NEIGHBOUR: 'it returns false'. Refute it at one input. -/
def epochNobodyWrong : ChangeSpec := { name := "epochNobody", fn := fun _ => fun
  | [d1, d2] => { results := [.lit (.bool false)], args := [d1, d2] }
  | _ => none }
def EpochNobodyWrongFalsely : Prop := epochNobodyRow.holds Try.pinned (OpenSpec.ofChange epochNobodyWrong)

/-- 'impostlaw03.EpochPlays': WHATEVER THE INPUT: true; the input reads as it did. -/
def epochPlaysSpec : ChangeSpec := { name := "epochPlays", fn := fun _ => fun
  | [d1, d2] => { results := [.lit (.bool true)], args := [d1, d2] }
  | _ => none }
def epochPlaysRow : OpenClaim := { program := "ytecjkpjcmgohmac", sum := "6e96cd8b3f8eff8958c2dce2d89d40da3ac27a2040012090ba5e4cfc341d1a33", func := "impost/impostlaw03.EpochPlays", spec := "epochPlays", unfollowed := true, recurses := true, apart := false }
def EpochPlaysSaid : Prop := epochPlaysRow.holds Try.pinned (OpenSpec.ofChange epochPlaysSpec)

/-- ITS FALSE NEIGHBOUR: 'it returns false'. Refute it at one input. -/
def epochPlaysWrong : ChangeSpec := { name := "epochPlays", fn := fun _ => fun
  | [d1, d2] => { results := [.lit (.bool false)], args := [d1, d2] }
  | _ => none }
def EpochPlaysWrongFalsely : Prop := epochPlaysRow.holds Try.pinned (OpenSpec.ofChange epochPlaysWrong)

/-- 'impostlaw03.EpochHolds': WHATEVER THE INPUT: true; the input reads as it did. -/
def epochHoldsSpec : ChangeSpec := { name := "epochHolds", fn := fun _ => fun
  | [d1, d2, d3] => { results := [.lit (.bool true)], args := [d1, d2, d3] }
  | _ => none }
def epochHoldsRow : OpenClaim := { program := "ytecjkpjcmgohmac", sum := "6e96cd8b3f8eff8958c2dce2d89d40da3ac27a2040012090ba5e4cfc341d1a33", func := "impost/impostlaw03.EpochHolds", spec := "epochHolds", unfollowed := true, recurses := true, apart := false }
def EpochHoldsSaid : Prop := epochHoldsRow.holds Try.pinned (OpenSpec.ofChange epochHoldsSpec)

/-- ITS FALSE NEIGHBOUR: 'it returns false'. Refute it at one input. -/
def epochHoldsWrong : ChangeSpec := { name := "epochHolds", fn := fun _ => fun
  | [d1, d2, d3] => { results := [.lit (.bool false)], args := [d1, d2, d3] }
  | _ => none }
def EpochHoldsWrongFalsely : Prop := epochHoldsRow.holds Try.pinned (OpenSpec.ofChange epochHoldsWrong)

/-- 'impostlaw03.EpochEnds': WHATEVER THE INPUT: true; the input reads as it did. -/
def epochEndsSpec : ChangeSpec := { name := "epochEnds", fn := fun _ => fun
  | [d1, d2] => { results := [.lit (.bool true)], args := [d1, d2] }
  | _ => none }
def epochEndsRow : OpenClaim := { program := "ytecjkpjcmgohmac", sum := "6e96cd8b3f8eff8958c2dce2d89d40da3ac27a2040012090ba5e4cfc341d1a33", func := "impost/impostlaw03.EpochEnds", spec := "epochEnds", unfollowed := true, recurses := true, apart := false }
def EpochEndsSaid : Prop := epochEndsRow.holds Try.pinned (OpenSpec.ofChange epochEndsSpec)

/-- ITS FALSE NEIGHBOUR: 'it returns false'. Refute it at one input. -/
def epochEndsWrong : ChangeSpec := { name := "epochEnds", fn := fun _ => fun
  | [d1, d2] => { results := [.lit (.bool false)], args := [d1, d2] }
  | _ => none }
def EpochEndsWrongFalsely : Prop := epochEndsRow.holds Try.pinned (OpenSpec.ofChange epochEndsWrong)

/-- 'impostlaw03.EpochOnce': WHATEVER THE INPUT: true; the input reads as it did. -/
def epochOnceSpec : ChangeSpec := { name := "epochOnce", fn := fun _ => fun
  | [d] => { results := [.lit (.bool true)], args := [d] }
  | _ => none }
def epochOnceRow : OpenClaim := { program := "ytecjkpjcmgohmac", sum := "6e96cd8b3f8eff8958c2dce2d89d40da3ac27a2040012090ba5e4cfc341d1a33", func := "impost/impostlaw03.EpochOnce", spec := "epochOnce", unfollowed := true, recurses := true, apart := false }
def EpochOnceSaid : Prop := epochOnceRow.holds Try.pinned (OpenSpec.ofChange epochOnceSpec)

/-- ITS FALSE NEIGHBOUR: 'it returns false'. Refute it at one input. -/
def epochOnceWrong : ChangeSpec := { name := "epochOnce", fn := fun _ => fun
  | [d] => { results := [.lit (.bool false)], args := [d] }
  | _ => none }
def EpochOnceWrongFalsely : Prop := epochOnceRow.holds Try.pinned (OpenSpec.ofChange epochOnceWrong)

/- THE SECOND FORM. 'bulk': how many values and letters a reading holds, each counted each time it is reached (what is shared counts as often as it is met; a slice's spare places count too). A statement '..UptoSaid' is the law's where the arguments, and the package variables that the reading takes, are together of bulk at most 1048576: NARROWER than '..Said'. Prove '..Said' where nothing that the law and all that it calls make is longer than what came in: it says more and counts as full. Else prove '..UptoSaid'. A law counts once. -/
mutual
def uptoBulk {H : Type} : DataW H → Nat
  | .lit (.string bytes) => bytes.length + 1
  | .lit _ => 1
  | .nil => 1
  | .ptr d => uptoBulk d + 1
  | .slice elems spare => uptoBulkAll elems + uptoBulkAll spare + 1
  | .agg parts => uptoBulkAll parts + 1
  | .iface _ d => uptoBulk d + 1
  | .map entries => uptoBulkEntries entries + 1
  | .held _ => 1
def uptoBulkAll {H : Type} : List (DataW H) → Nat
  | [] => 0
  | d :: r => uptoBulk d + uptoBulkAll r
def uptoBulkEntries {H : Type} : List (Lit × DataW H) → Nat
  | [] => 0
  | x :: r => uptoBulkEntry x + uptoBulkEntries r
def uptoBulkEntry {H : Type} : Lit × DataW H → Nat
  | (.string bytes, d) => bytes.length + uptoBulk d + 1
  | (_, d) => uptoBulk d + 1
 end
def uptoSmall : (H : Type) → List (DataW H) → Bool := fun _ ds => decide (uptoBulkAll ds ≤ 1048576)
def OpenSpec.upto (s : _root_.Go.ChangeSpec) : _root_.Go.OpenSpec := { _root_.Go.OpenSpec.ofChange s with cond := some uptoSmall }

/-- 'impostlaw03.EpochSlow', WHERE WHAT IT READS IS OF BULK AT MOST 1048576: true; the input reads as it did. -/
def epochSlowUptoRow : OpenClaim := { program := "ytecjkpjcmgohmac", sum := "6e96cd8b3f8eff8958c2dce2d89d40da3ac27a2040012090ba5e4cfc341d1a33", func := "impost/impostlaw03.EpochSlow", spec := "epochSlow", unfollowed := true, recurses := true, apart := false, narrowed := true }
def EpochSlowUptoSaid : Prop := epochSlowUptoRow.holds Try.pinned (OpenSpec.upto epochSlowSpec)

/-- 'impostlaw03.EpochNobody', WHERE WHAT IT READS IS OF BULK AT MOST 1048576: true; the input reads as it did. -/
def epochNobodyUptoRow : OpenClaim := { program := "ytecjkpjcmgohmac", sum := "6e96cd8b3f8eff8958c2dce2d89d40da3ac27a2040012090ba5e4cfc341d1a33", func := "impost/impostlaw03.EpochNobody", spec := "epochNobody", unfollowed := true, recurses := true, apart := false, narrowed := true }
def EpochNobodyUptoSaid : Prop := epochNobodyUptoRow.holds Try.pinned (OpenSpec.upto epochNobodySpec)

/-- 'impostlaw03.EpochPlays', WHERE WHAT IT READS IS OF BULK AT MOST 1048576: true; the input reads as it did. -/
def epochPlaysUptoRow : OpenClaim := { program := "ytecjkpjcmgohmac", sum := "6e96cd8b3f8eff8958c2dce2d89d40da3ac27a2040012090ba5e4cfc341d1a33", func := "impost/impostlaw03.EpochPlays", spec := "epochPlays", unfollowed := true, recurses := true, apart := false, narrowed := true }
def EpochPlaysUptoSaid : Prop := epochPlaysUptoRow.holds Try.pinned (OpenSpec.upto epochPlaysSpec)

/-- 'impostlaw03.EpochHolds', WHERE WHAT IT READS IS OF BULK AT MOST 1048576: true; the input reads as it did. -/
def epochHoldsUptoRow : OpenClaim := { program := "ytecjkpjcmgohmac", sum := "6e96cd8b3f8eff8958c2dce2d89d40da3ac27a2040012090ba5e4cfc341d1a33", func := "impost/impostlaw03.EpochHolds", spec := "epochHolds", unfollowed := true, recurses := true, apart := false, narrowed := true }
def EpochHoldsUptoSaid : Prop := epochHoldsUptoRow.holds Try.pinned (OpenSpec.upto epochHoldsSpec)

/-- 'impostlaw03.EpochEnds', WHERE WHAT IT READS IS OF BULK AT MOST 1048576: true; the input reads as it did. -/
def epochEndsUptoRow : OpenClaim := { program := "ytecjkpjcmgohmac", sum := "6e96cd8b3f8eff8958c2dce2d89d40da3ac27a2040012090ba5e4cfc341d1a33", func := "impost/impostlaw03.EpochEnds", spec := "epochEnds", unfollowed := true, recurses := true, apart := false, narrowed := true }
def EpochEndsUptoSaid : Prop := epochEndsUptoRow.holds Try.pinned (OpenSpec.upto epochEndsSpec)

/-- 'impostlaw03.EpochOnce', WHERE WHAT IT READS IS OF BULK AT MOST 1048576: true; the input reads as it did. -/
def epochOnceUptoRow : OpenClaim := { program := "ytecjkpjcmgohmac", sum := "6e96cd8b3f8eff8958c2dce2d89d40da3ac27a2040012090ba5e4cfc341d1a33", func := "impost/impostlaw03.EpochOnce", spec := "epochOnce", unfollowed := true, recurses := true, apart := false, narrowed := true }
def EpochOnceUptoSaid : Prop := epochOnceUptoRow.holds Try.pinned (OpenSpec.upto epochOnceSpec)

end Rows
end Go.Proofs.Ytecjkpjcmgohmac
