/-
  No cell of these rows narrows 'for every input' (looked for: loops, veiled, ifaces, maps, wideKeys, modest, calm, conditions, laid).
  DERIVED. THE GIVEN ROWS OF THIS SEAT. 6 by the template 'for every input the law returns true; each argument reads behind the call as it read before'; 0 by the template 'total and deterministic' (their statements: YtpblbokdeappgaaTotals.lean).
  GIVEN WITH THE SEED: the statements are not yours to turn. If you find one false, say at which input.
  Laid BY PROGRAM, IN A SANDBOX (cutbox-rows.mjs): the forced cells as the released guide's own fill.sh prints them over the translation 593cefeea1201f01… (all of the seat's roots in one cut). By AI agents, Wed Nov 11 2026. No macro, syntax, notation, axiom, sorry.
-/
import Derived.Test.YtpblbokdeappgaaChecked
import GoSem.Claim
import GoSem.ClaimJoined
import GoSem.ClaimMapViews
import Derived.JoinedTies
import Derived.KernelRfl
namespace Go.Proofs.Ytpblbokdeappgaa
/- THE CELL 'sum', in the pinned program and in every row, IS THE sha256 OF THE DUMP (.gsa) THAT YtpblbokdeappgaaProg.lean LOADS. Nothing in Lean hashes anything: it is a label: what it is worth is what the hold of that sum in a sandbox is worth. -/
noncomputable def Try.pinned : Pinned := { name := "ytpblbokdeappgaa", sum := "593cefeea1201f01ac571b43128ccba1d680147906e9acab7b3a67669c9e5f44", checked := Try.checked }
namespace Rows
def none {H : Type} : Left H := { results := [], args := [] }

/-- 'impostlaw12.WordPacks': WHATEVER THE INPUT: true; the input reads as it did. -/
def wordPacksSpec : ChangeSpec := { name := "wordPacks", fn := fun _ => fun
  | [d1, d2, d3] => { results := [.lit (.bool true)], args := [d1, d2, d3] }
  | _ => none }
def wordPacksRow : OpenClaim := { program := "ytpblbokdeappgaa", sum := "593cefeea1201f01ac571b43128ccba1d680147906e9acab7b3a67669c9e5f44", func := "impost/impostlaw12.WordPacks", spec := "wordPacks", apart := false }
def WordPacksSaid : Prop := wordPacksRow.holds Try.pinned (OpenSpec.ofChange wordPacksSpec)

/-- ITS FALSE NEIGHBOUR: 'it returns false'. Refute it at one input. -/
def wordPacksWrong : ChangeSpec := { name := "wordPacks", fn := fun _ => fun
  | [d1, d2, d3] => { results := [.lit (.bool false)], args := [d1, d2, d3] }
  | _ => none }
def WordPacksWrongFalsely : Prop := wordPacksRow.holds Try.pinned (OpenSpec.ofChange wordPacksWrong)

/-- 'impostlaw12.WordHeads': WHATEVER THE INPUT: true; the input reads as it did. -/
def wordHeadsSpec : ChangeSpec := { name := "wordHeads", fn := fun _ => fun
  | [d1, d2] => { results := [.lit (.bool true)], args := [d1, d2] }
  | _ => none }
def wordHeadsRow : OpenClaim := { program := "ytpblbokdeappgaa", sum := "593cefeea1201f01ac571b43128ccba1d680147906e9acab7b3a67669c9e5f44", func := "impost/impostlaw12.WordHeads", spec := "wordHeads", apart := false }
def WordHeadsSaid : Prop := wordHeadsRow.holds Try.pinned (OpenSpec.ofChange wordHeadsSpec)

/-- ITS FALSE NEIGHBOUR: 'it returns false'. Refute it at one input. -/
def wordHeadsWrong : ChangeSpec := { name := "wordHeads", fn := fun _ => fun
  | [d1, d2] => { results := [.lit (.bool false)], args := [d1, d2] }
  | _ => none }
def WordHeadsWrongFalsely : Prop := wordHeadsRow.holds Try.pinned (OpenSpec.ofChange wordHeadsWrong)

/-- 'impostlaw12.WordBack': WHATEVER THE INPUT: true; the input reads as it did. -/
def wordBackSpec : ChangeSpec := { name := "wordBack", fn := fun _ => fun
  | [d1, d2, d3] => { results := [.lit (.bool true)], args := [d1, d2, d3] }
  | _ => none }
def wordBackRow : OpenClaim := { program := "ytpblbokdeappgaa", sum := "593cefeea1201f01ac571b43128ccba1d680147906e9acab7b3a67669c9e5f44", func := "impost/impostlaw12.WordBack", spec := "wordBack", apart := false }
def WordBackSaid : Prop := wordBackRow.holds Try.pinned (OpenSpec.ofChange wordBackSpec)

/-- ITS FALSE NEIGHBOUR: 'it returns false'. Refute it at one input. -/
def wordBackWrong : ChangeSpec := { name := "wordBack", fn := fun _ => fun
  | [d1, d2, d3] => { results := [.lit (.bool false)], args := [d1, d2, d3] }
  | _ => none }
def WordBackWrongFalsely : Prop := wordBackRow.holds Try.pinned (OpenSpec.ofChange wordBackWrong)

/-- 'impostlaw12.WordMay': WHATEVER THE INPUT: true; the input reads as it did. -/
def wordMaySpec : ChangeSpec := { name := "wordMay", fn := fun _ => fun
  | [d1, d2] => { results := [.lit (.bool true)], args := [d1, d2] }
  | _ => none }
def wordMayRow : OpenClaim := { program := "ytpblbokdeappgaa", sum := "593cefeea1201f01ac571b43128ccba1d680147906e9acab7b3a67669c9e5f44", func := "impost/impostlaw12.WordMay", spec := "wordMay", apart := false }
def WordMaySaid : Prop := wordMayRow.holds Try.pinned (OpenSpec.ofChange wordMaySpec)

/-- ITS FALSE NEIGHBOUR: 'it returns false'. Refute it at one input. -/
def wordMayWrong : ChangeSpec := { name := "wordMay", fn := fun _ => fun
  | [d1, d2] => { results := [.lit (.bool false)], args := [d1, d2] }
  | _ => none }
def WordMayWrongFalsely : Prop := wordMayRow.holds Try.pinned (OpenSpec.ofChange wordMayWrong)

/-- 'impostlaw12.WordRises': WHATEVER THE INPUT: true; the input reads as it did. -/
def wordRisesSpec : ChangeSpec := { name := "wordRises", fn := fun _ => fun
  | [d1, d2] => { results := [.lit (.bool true)], args := [d1, d2] }
  | _ => none }
def wordRisesRow : OpenClaim := { program := "ytpblbokdeappgaa", sum := "593cefeea1201f01ac571b43128ccba1d680147906e9acab7b3a67669c9e5f44", func := "impost/impostlaw12.WordRises", spec := "wordRises", apart := false }
def WordRisesSaid : Prop := wordRisesRow.holds Try.pinned (OpenSpec.ofChange wordRisesSpec)

/-- ITS FALSE NEIGHBOUR: 'it returns false'. Refute it at one input. -/
def wordRisesWrong : ChangeSpec := { name := "wordRises", fn := fun _ => fun
  | [d1, d2] => { results := [.lit (.bool false)], args := [d1, d2] }
  | _ => none }
def WordRisesWrongFalsely : Prop := wordRisesRow.holds Try.pinned (OpenSpec.ofChange wordRisesWrong)

/-- 'impostlaw12.WordOnes': WHATEVER THE INPUT: true; the input reads as it did. -/
def wordOnesSpec : ChangeSpec := { name := "wordOnes", fn := fun _ => fun
  | [d1, d2] => { results := [.lit (.bool true)], args := [d1, d2] }
  | _ => none }
def wordOnesRow : OpenClaim := { program := "ytpblbokdeappgaa", sum := "593cefeea1201f01ac571b43128ccba1d680147906e9acab7b3a67669c9e5f44", func := "impost/impostlaw12.WordOnes", spec := "wordOnes", apart := false }
def WordOnesSaid : Prop := wordOnesRow.holds Try.pinned (OpenSpec.ofChange wordOnesSpec)

/-- ITS FALSE NEIGHBOUR: 'it returns false'. Refute it at one input. -/
def wordOnesWrong : ChangeSpec := { name := "wordOnes", fn := fun _ => fun
  | [d1, d2] => { results := [.lit (.bool false)], args := [d1, d2] }
  | _ => none }
def WordOnesWrongFalsely : Prop := wordOnesRow.holds Try.pinned (OpenSpec.ofChange wordOnesWrong)

/- THE SECOND FORM. 'bulk': how many values and letters a reading holds, each counted each time it is reached (what is shared counts as often as it is met; a slice's spare places count too). A statement '..UptoSaid' is the law's where the arguments, and the package variables that the reading takes, are together of bulk at most 1048576: NARROWER than '..Said'. Prove '..Said' where nothing that the law and all that it calls make is longer than what came in: it says more and counts as full. Else prove '..UptoSaid'. A law counts once. -/
mutual
def uptoBulk {H : Type} : DataW H → Nat
  | .lit (.string bytes) => bytes.length + 1
  | .lit _ => 1
  | .nil => 1
  | .ptr d => uptoBulk d + 1
  | .slice elems spare => uptoBulkAll elems + uptoBulkAll spare + 1
  | .agg parts => uptoBulkAll parts + 1
  | .iface _ d => uptoBulk d + 1
  | .map entries => uptoBulkEntries entries + 1
  | .held _ => 1
def uptoBulkAll {H : Type} : List (DataW H) → Nat
  | [] => 0
  | d :: r => uptoBulk d + uptoBulkAll r
def uptoBulkEntries {H : Type} : List (Lit × DataW H) → Nat
  | [] => 0
  | x :: r => uptoBulkEntry x + uptoBulkEntries r
def uptoBulkEntry {H : Type} : Lit × DataW H → Nat
  | (.string bytes, d) => bytes.length + uptoBulk d + 1
  | (_, d) => uptoBulk d + 1
 end
def uptoSmall : (H : Type) → List (DataW H) → Bool := fun _ ds => decide (uptoBulkAll ds ≤ 1048576)
def OpenSpec.upto (s : _root_.Go.ChangeSpec) : _root_.Go.OpenSpec := { _root_.Go.OpenSpec.ofChange s with cond := some uptoSmall }

/-- 'impostlaw12.WordPacks', WHERE WHAT IT READS IS OF BULK AT MOST 1048576: true; the input reads as it did. -/
def wordPacksUptoRow : OpenClaim := { program := "ytpblbokdeappgaa", sum := "593cefeea1201f01ac571b43128ccba1d680147906e9acab7b3a67669c9e5f44", func := "impost/impostlaw12.WordPacks", spec := "wordPacks", apart := false, narrowed := true }
def WordPacksUptoSaid : Prop := wordPacksUptoRow.holds Try.pinned (OpenSpec.upto wordPacksSpec)

/-- 'impostlaw12.WordHeads', WHERE WHAT IT READS IS OF BULK AT MOST 1048576: true; the input reads as it did. -/
def wordHeadsUptoRow : OpenClaim := { program := "ytpblbokdeappgaa", sum := "593cefeea1201f01ac571b43128ccba1d680147906e9acab7b3a67669c9e5f44", func := "impost/impostlaw12.WordHeads", spec := "wordHeads", apart := false, narrowed := true }
def WordHeadsUptoSaid : Prop := wordHeadsUptoRow.holds Try.pinned (OpenSpec.upto wordHeadsSpec)

/-- 'impostlaw12.WordBack', WHERE WHAT IT READS IS OF BULK AT MOST 1048576: true; the input reads as it did. -/
def wordBackUptoRow : OpenClaim := { program := "ytpblbokdeappgaa", sum := "593cefeea1201f01ac571b43128ccba1d680147906e9acab7b3a67669c9e5f44", func := "impost/impostlaw12.WordBack", spec := "wordBack", apart := false, narrowed := true }
def WordBackUptoSaid : Prop := wordBackUptoRow.holds Try.pinned (OpenSpec.upto wordBackSpec)

/-- 'impostlaw12.WordMay', WHERE WHAT IT READS IS OF BULK AT MOST 1048576: true; the input reads as it did. -/
def wordMayUptoRow : OpenClaim := { program := "ytpblbokdeappgaa", sum := "593cefeea1201f01ac571b43128ccba1d680147906e9acab7b3a67669c9e5f44", func := "impost/impostlaw12.WordMay", spec := "wordMay", apart := false, narrowed := true }
def WordMayUptoSaid : Prop := wordMayUptoRow.holds Try.pinned (OpenSpec.upto wordMaySpec)

/-- 'impostlaw12.WordRises', WHERE WHAT IT READS IS OF BULK AT MOST 1048576: true; the input reads as it did. -/
def wordRisesUptoRow : OpenClaim := { program := "ytpblbokdeappgaa", sum := "593cefeea1201f01ac571b43128ccba1d680147906e9acab7b3a67669c9e5f44", func := "impost/impostlaw12.WordRises", spec := "wordRises", apart := false, narrowed := true }
def WordRisesUptoSaid : Prop := wordRisesUptoRow.holds Try.pinned (OpenSpec.upto wordRisesSpec)

/-- 'impostlaw12.WordOnes', WHERE WHAT IT READS IS OF BULK AT MOST 1048576: true; the input reads as it did. -/
def wordOnesUptoRow : OpenClaim := { program := "ytpblbokdeappgaa", sum := "593cefeea1201f01ac571b43128ccba1d680147906e9acab7b3a67669c9e5f44", func := "impost/impostlaw12.WordOnes", spec := "wordOnes", apart := false, narrowed := true }
def WordOnesUptoSaid : Prop := wordOnesUptoRow.holds Try.pinned (OpenSpec.upto wordOnesSpec)

end Rows
end Go.Proofs.Ytpblbokdeappgaa
