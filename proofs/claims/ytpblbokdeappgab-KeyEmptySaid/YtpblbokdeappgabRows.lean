/-
  No cell of these rows narrows 'for every input' (looked for: loops, veiled, ifaces, maps, wideKeys, modest, calm, conditions, laid).
  DERIVED. THE GIVEN ROWS OF THIS SEAT. 6 by the template 'for every input the law returns true; each argument reads behind the call as it read before'; 0 by the template 'total and deterministic' (their statements: YtpblbokdeappgabTotals.lean).
  GIVEN WITH THE SEED: the statements are not yours to turn. If you find one false, say at which input.
  Laid BY PROGRAM, IN A SANDBOX (cutbox-rows.mjs): the forced cells as the released guide's own fill.sh prints them over the translation d4324f74bd1b83a9… (all of the seat's roots in one cut). By AI agents, Wed Nov 11 2026. No macro, syntax, notation, axiom, sorry.
-/
import Derived.Test.YtpblbokdeappgabChecked
import GoSem.Claim
import GoSem.ClaimJoined
import GoSem.ClaimMapViews
import Derived.JoinedTies
import Derived.KernelRfl
namespace Go.Proofs.Ytpblbokdeappgab
/- THE CELL 'sum', in the pinned program and in every row, IS THE sha256 OF THE DUMP (.gsa) THAT YtpblbokdeappgabProg.lean LOADS. Nothing in Lean hashes anything: it is a label: what it is worth is what the hold of that sum in a sandbox is worth. -/
noncomputable def Try.pinned : Pinned := { name := "ytpblbokdeappgab", sum := "d4324f74bd1b83a9b90f40faa4bfeca2dcef3c07047e4b501c3103658e8b4f3e", checked := Try.checked }
namespace Rows
def none {H : Type} : Left H := { results := [], args := [] }

/-- 'impostlaw04.KeyTells': WHATEVER THE INPUT: true; the input reads as it did. -/
def keyTellsSpec : ChangeSpec := { name := "keyTells", fn := fun _ => fun
  | [d1, d2] => { results := [.lit (.bool true)], args := [d1, d2] }
  | _ => none }
def keyTellsRow : OpenClaim := { program := "ytpblbokdeappgab", sum := "d4324f74bd1b83a9b90f40faa4bfeca2dcef3c07047e4b501c3103658e8b4f3e", func := "impost/impostlaw04.KeyTells", spec := "keyTells", apart := false }
def KeyTellsSaid : Prop := keyTellsRow.holds Try.pinned (OpenSpec.ofChange keyTellsSpec)

/-- ITS FALSE NEIGHBOUR: 'it returns false'. Refute it at one input. -/
def keyTellsWrong : ChangeSpec := { name := "keyTells", fn := fun _ => fun
  | [d1, d2] => { results := [.lit (.bool false)], args := [d1, d2] }
  | _ => none }
def KeyTellsWrongFalsely : Prop := keyTellsRow.holds Try.pinned (OpenSpec.ofChange keyTellsWrong)

/-- 'impostlaw04.KeyPrefix': WHATEVER THE INPUT: true; the input reads as it did. -/
def keyPrefixSpec : ChangeSpec := { name := "keyPrefix", fn := fun _ => fun
  | [d1, d2] => { results := [.lit (.bool true)], args := [d1, d2] }
  | _ => none }
def keyPrefixRow : OpenClaim := { program := "ytpblbokdeappgab", sum := "d4324f74bd1b83a9b90f40faa4bfeca2dcef3c07047e4b501c3103658e8b4f3e", func := "impost/impostlaw04.KeyPrefix", spec := "keyPrefix", apart := false }
def KeyPrefixSaid : Prop := keyPrefixRow.holds Try.pinned (OpenSpec.ofChange keyPrefixSpec)

/-- ITS FALSE NEIGHBOUR: 'it returns false'. Refute it at one input. -/
def keyPrefixWrong : ChangeSpec := { name := "keyPrefix", fn := fun _ => fun
  | [d1, d2] => { results := [.lit (.bool false)], args := [d1, d2] }
  | _ => none }
def KeyPrefixWrongFalsely : Prop := keyPrefixRow.holds Try.pinned (OpenSpec.ofChange keyPrefixWrong)

/-- 'impostlaw04.KeyMeet': WHATEVER THE INPUT: true; the input reads as it did. -/
def keyMeetSpec : ChangeSpec := { name := "keyMeet", fn := fun _ => fun
  | [d1, d2, d3] => { results := [.lit (.bool true)], args := [d1, d2, d3] }
  | _ => none }
def keyMeetRow : OpenClaim := { program := "ytpblbokdeappgab", sum := "d4324f74bd1b83a9b90f40faa4bfeca2dcef3c07047e4b501c3103658e8b4f3e", func := "impost/impostlaw04.KeyMeet", spec := "keyMeet", apart := false }
def KeyMeetSaid : Prop := keyMeetRow.holds Try.pinned (OpenSpec.ofChange keyMeetSpec)

/-- ITS FALSE NEIGHBOUR: 'it returns false'. Refute it at one input. -/
def keyMeetWrong : ChangeSpec := { name := "keyMeet", fn := fun _ => fun
  | [d1, d2, d3] => { results := [.lit (.bool false)], args := [d1, d2, d3] }
  | _ => none }
def KeyMeetWrongFalsely : Prop := keyMeetRow.holds Try.pinned (OpenSpec.ofChange keyMeetWrong)

/-- 'impostlaw04.KeyEmpty': WHATEVER THE INPUT: true; the input reads as it did. -/
def keyEmptySpec : ChangeSpec := { name := "keyEmpty", fn := fun _ => fun
  | [d1, d2, d3] => { results := [.lit (.bool true)], args := [d1, d2, d3] }
  | _ => none }
def keyEmptyRow : OpenClaim := { program := "ytpblbokdeappgab", sum := "d4324f74bd1b83a9b90f40faa4bfeca2dcef3c07047e4b501c3103658e8b4f3e", func := "impost/impostlaw04.KeyEmpty", spec := "keyEmpty", apart := false }
def KeyEmptySaid : Prop := keyEmptyRow.holds Try.pinned (OpenSpec.ofChange keyEmptySpec)

/-- ITS FALSE NEIGHBOUR: 'it returns false'. Refute it at one input. -/
def keyEmptyWrong : ChangeSpec := { name := "keyEmpty", fn := fun _ => fun
  | [d1, d2, d3] => { results := [.lit (.bool false)], args := [d1, d2, d3] }
  | _ => none }
def KeyEmptyWrongFalsely : Prop := keyEmptyRow.holds Try.pinned (OpenSpec.ofChange keyEmptyWrong)

/-- 'impostlaw04.KeyMakes': WHATEVER THE INPUT: true; the input reads as it did. -/
def keyMakesSpec : ChangeSpec := { name := "keyMakes", fn := fun _ => fun
  | [d1, d2, d3] => { results := [.lit (.bool true)], args := [d1, d2, d3] }
  | _ => none }
def keyMakesRow : OpenClaim := { program := "ytpblbokdeappgab", sum := "d4324f74bd1b83a9b90f40faa4bfeca2dcef3c07047e4b501c3103658e8b4f3e", func := "impost/impostlaw04.KeyMakes", spec := "keyMakes", apart := false }
def KeyMakesSaid : Prop := keyMakesRow.holds Try.pinned (OpenSpec.ofChange keyMakesSpec)

/-- ITS FALSE NEIGHBOUR: 'it returns false'. Refute it at one input. -/
def keyMakesWrong : ChangeSpec := { name := "keyMakes", fn := fun _ => fun
  | [d1, d2, d3] => { results := [.lit (.bool false)], args := [d1, d2, d3] }
  | _ => none }
def KeyMakesWrongFalsely : Prop := keyMakesRow.holds Try.pinned (OpenSpec.ofChange keyMakesWrong)

/-- 'impostlaw04.KeyOne': WHATEVER THE INPUT: true; the input reads as it did. -/
def keyOneSpec : ChangeSpec := { name := "keyOne", fn := fun _ => fun
  | [d1, d2] => { results := [.lit (.bool true)], args := [d1, d2] }
  | _ => none }
def keyOneRow : OpenClaim := { program := "ytpblbokdeappgab", sum := "d4324f74bd1b83a9b90f40faa4bfeca2dcef3c07047e4b501c3103658e8b4f3e", func := "impost/impostlaw04.KeyOne", spec := "keyOne", apart := false }
def KeyOneSaid : Prop := keyOneRow.holds Try.pinned (OpenSpec.ofChange keyOneSpec)

/-- ITS FALSE NEIGHBOUR: 'it returns false'. Refute it at one input. -/
def keyOneWrong : ChangeSpec := { name := "keyOne", fn := fun _ => fun
  | [d1, d2] => { results := [.lit (.bool false)], args := [d1, d2] }
  | _ => none }
def KeyOneWrongFalsely : Prop := keyOneRow.holds Try.pinned (OpenSpec.ofChange keyOneWrong)

/- THE SECOND FORM. 'bulk': how many values and letters a reading holds, each counted each time it is reached (what is shared counts as often as it is met; a slice's spare places count too). A statement '..UptoSaid' is the law's where the arguments, and the package variables that the reading takes, are together of bulk at most 1048576: NARROWER than '..Said'. Prove '..Said' where nothing that the law and all that it calls make is longer than what came in: it says more and counts as full. Else prove '..UptoSaid'. A law counts once. -/
mutual
def uptoBulk {H : Type} : DataW H → Nat
  | .lit (.string bytes) => bytes.length + 1
  | .lit _ => 1
  | .nil => 1
  | .ptr d => uptoBulk d + 1
  | .slice elems spare => uptoBulkAll elems + uptoBulkAll spare + 1
  | .agg parts => uptoBulkAll parts + 1
  | .iface _ d => uptoBulk d + 1
  | .map entries => uptoBulkEntries entries + 1
  | .held _ => 1
def uptoBulkAll {H : Type} : List (DataW H) → Nat
  | [] => 0
  | d :: r => uptoBulk d + uptoBulkAll r
def uptoBulkEntries {H : Type} : List (Lit × DataW H) → Nat
  | [] => 0
  | x :: r => uptoBulkEntry x + uptoBulkEntries r
def uptoBulkEntry {H : Type} : Lit × DataW H → Nat
  | (.string bytes, d) => bytes.length + uptoBulk d + 1
  | (_, d) => uptoBulk d + 1
 end
def uptoSmall : (H : Type) → List (DataW H) → Bool := fun _ ds => decide (uptoBulkAll ds ≤ 1048576)
def OpenSpec.upto (s : _root_.Go.ChangeSpec) : _root_.Go.OpenSpec := { _root_.Go.OpenSpec.ofChange s with cond := some uptoSmall }

/-- 'impostlaw04.KeyTells', WHERE WHAT IT READS IS OF BULK AT MOST 1048576: true; the input reads as it did. -/
def keyTellsUptoRow : OpenClaim := { program := "ytpblbokdeappgab", sum := "d4324f74bd1b83a9b90f40faa4bfeca2dcef3c07047e4b501c3103658e8b4f3e", func := "impost/impostlaw04.KeyTells", spec := "keyTells", apart := false, narrowed := true }
def KeyTellsUptoSaid : Prop := keyTellsUptoRow.holds Try.pinned (OpenSpec.upto keyTellsSpec)

/-- 'impostlaw04.KeyPrefix', WHERE WHAT IT READS IS OF BULK AT MOST 1048576: true; the input reads as it did. -/
def keyPrefixUptoRow : OpenClaim := { program := "ytpblbokdeappgab", sum := "d4324f74bd1b83a9b90f40faa4bfeca2dcef3c07047e4b501c3103658e8b4f3e", func := "impost/impostlaw04.KeyPrefix", spec := "keyPrefix", apart := false, narrowed := true }
def KeyPrefixUptoSaid : Prop := keyPrefixUptoRow.holds Try.pinned (OpenSpec.upto keyPrefixSpec)

/-- 'impostlaw04.KeyMeet', WHERE WHAT IT READS IS OF BULK AT MOST 1048576: true; the input reads as it did. -/
def keyMeetUptoRow : OpenClaim := { program := "ytpblbokdeappgab", sum := "d4324f74bd1b83a9b90f40faa4bfeca2dcef3c07047e4b501c3103658e8b4f3e", func := "impost/impostlaw04.KeyMeet", spec := "keyMeet", apart := false, narrowed := true }
def KeyMeetUptoSaid : Prop := keyMeetUptoRow.holds Try.pinned (OpenSpec.upto keyMeetSpec)

/-- 'impostlaw04.KeyEmpty', WHERE WHAT IT READS IS OF BULK AT MOST 1048576: true; the input reads as it did. -/
def keyEmptyUptoRow : OpenClaim := { program := "ytpblbokdeappgab", sum := "d4324f74bd1b83a9b90f40faa4bfeca2dcef3c07047e4b501c3103658e8b4f3e", func := "impost/impostlaw04.KeyEmpty", spec := "keyEmpty", apart := false, narrowed := true }
def KeyEmptyUptoSaid : Prop := keyEmptyUptoRow.holds Try.pinned (OpenSpec.upto keyEmptySpec)

/-- 'impostlaw04.KeyMakes', WHERE WHAT IT READS IS OF BULK AT MOST 1048576: true; the input reads as it did. -/
def keyMakesUptoRow : OpenClaim := { program := "ytpblbokdeappgab", sum := "d4324f74bd1b83a9b90f40faa4bfeca2dcef3c07047e4b501c3103658e8b4f3e", func := "impost/impostlaw04.KeyMakes", spec := "keyMakes", apart := false, narrowed := true }
def KeyMakesUptoSaid : Prop := keyMakesUptoRow.holds Try.pinned (OpenSpec.upto keyMakesSpec)

/-- 'impostlaw04.KeyOne', WHERE WHAT IT READS IS OF BULK AT MOST 1048576: true; the input reads as it did. -/
def keyOneUptoRow : OpenClaim := { program := "ytpblbokdeappgab", sum := "d4324f74bd1b83a9b90f40faa4bfeca2dcef3c07047e4b501c3103658e8b4f3e", func := "impost/impostlaw04.KeyOne", spec := "keyOne", apart := false, narrowed := true }
def KeyOneUptoSaid : Prop := keyOneUptoRow.holds Try.pinned (OpenSpec.upto keyOneSpec)

end Rows
end Go.Proofs.Ytpblbokdeappgab
