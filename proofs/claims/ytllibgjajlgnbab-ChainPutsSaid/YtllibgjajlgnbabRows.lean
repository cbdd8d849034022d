/-
  No cell of these rows narrows 'for every input' (looked for: loops, veiled, ifaces, maps, wideKeys, modest, calm, conditions, laid).
  DERIVED. THE GIVEN ROWS OF THIS SEAT. 10 by the template 'for every input the law returns true; each argument reads behind the call as it read before'; 0 by the template 'total and deterministic' (their statements: YtllibgjajlgnbabTotals.lean).
  GIVEN WITH THE SEED: the statements are not yours to turn. If you find one false, say at which input.
  Laid BY PROGRAM, IN A SANDBOX (cutbox-rows.mjs): the forced cells as the released guide's own fill.sh prints them over the translation 88b20d3067a417df… (all of the seat's roots in one cut). By AI agents, Wed Nov 11 2026. No macro, syntax, notation, axiom, sorry.
-/
import Derived.Test.YtllibgjajlgnbabChecked
import GoSem.Claim
import GoSem.ClaimJoined
import GoSem.ClaimMapViews
import Derived.JoinedTies
import Derived.KernelRfl
namespace Go.Proofs.Ytllibgjajlgnbab
/- THE CELL 'sum', in the pinned program and in every row, IS THE sha256 OF THE DUMP (.gsa) THAT YtllibgjajlgnbabProg.lean LOADS. Nothing in Lean hashes anything: it is a label: what it is worth is what the hold of that sum in a sandbox is worth. -/
noncomputable def Try.pinned : Pinned := { name := "ytllibgjajlgnbab", sum := "88b20d3067a417dfe5493262a24bbadbf972249ef0e1d8fbd0272008a99d5d5f", checked := Try.checked }
namespace Rows
def none {H : Type} : Left H := { results := [], args := [] }

/-- 'impostlaw18.RingOnce': WHATEVER THE INPUT: true; the input reads as it did. -/
def ringOnceSpec : ChangeSpec := { name := "ringOnce", fn := fun _ => fun
  | [d1, d2, d3] => { results := [.lit (.bool true)], args := [d1, d2, d3] }
  | _ => none }
def ringOnceRow : OpenClaim := { program := "ytllibgjajlgnbab", sum := "88b20d3067a417dfe5493262a24bbadbf972249ef0e1d8fbd0272008a99d5d5f", func := "impost/impostlaw18.RingOnce", spec := "ringOnce", apart := false }
def RingOnceSaid : Prop := ringOnceRow.holds Try.pinned (OpenSpec.ofChange ringOnceSpec)

/-- ITS FALSE NEIGHBOUR: 'it returns false'. Refute it at one input. -/
def ringOnceWrong : ChangeSpec := { name := "ringOnce", fn := fun _ => fun
  | [d1, d2, d3] => { results := [.lit (.bool false)], args := [d1, d2, d3] }
  | _ => none }
def RingOnceWrongFalsely : Prop := ringOnceRow.holds Try.pinned (OpenSpec.ofChange ringOnceWrong)

/-- 'impostlaw18.RingStays': WHATEVER THE INPUT: true; the input reads as it did. -/
def ringStaysSpec : ChangeSpec := { name := "ringStays", fn := fun _ => fun
  | [d1, d2, d3] => { results := [.lit (.bool true)], args := [d1, d2, d3] }
  | _ => none }
def ringStaysRow : OpenClaim := { program := "ytllibgjajlgnbab", sum := "88b20d3067a417dfe5493262a24bbadbf972249ef0e1d8fbd0272008a99d5d5f", func := "impost/impostlaw18.RingStays", spec := "ringStays", apart := false }
def RingStaysSaid : Prop := ringStaysRow.holds Try.pinned (OpenSpec.ofChange ringStaysSpec)

/-- ITS FALSE NEIGHBOUR: 'it returns false'. Refute it at one input. -/
def ringStaysWrong : ChangeSpec := { name := "ringStays", fn := fun _ => fun
  | [d1, d2, d3] => { results := [.lit (.bool false)], args := [d1, d2, d3] }
  | _ => none }
def RingStaysWrongFalsely : Prop := ringStaysRow.holds Try.pinned (OpenSpec.ofChange ringStaysWrong)

/-- 'impostlaw18.RingHeads': WHATEVER THE INPUT: true; the input reads as it did. -/
def ringHeadsSpec : ChangeSpec := { name := "ringHeads", fn := fun _ => fun
  | [d1, d2, d3] => { results := [.lit (.bool true)], args := [d1, d2, d3] }
  | _ => none }
def ringHeadsRow : OpenClaim := { program := "ytllibgjajlgnbab", sum := "88b20d3067a417dfe5493262a24bbadbf972249ef0e1d8fbd0272008a99d5d5f", func := "impost/impostlaw18.RingHeads", spec := "ringHeads", apart := false }
def RingHeadsSaid : Prop := ringHeadsRow.holds Try.pinned (OpenSpec.ofChange ringHeadsSpec)

/-- ITS FALSE NEIGHBOUR: 'it returns false'. Refute it at one input. -/
def ringHeadsWrong : ChangeSpec := { name := "ringHeads", fn := fun _ => fun
  | [d1, d2, d3] => { results := [.lit (.bool false)], args := [d1, d2, d3] }
  | _ => none }
def RingHeadsWrongFalsely : Prop := ringHeadsRow.holds Try.pinned (OpenSpec.ofChange ringHeadsWrong)

/-- 'impostlaw18.RingApart': WHATEVER THE INPUT: true; the input reads as it did. -/
def ringApartSpec : ChangeSpec := { name := "ringApart", fn := fun _ => fun
  | [d1, d2, d3] => { results := [.lit (.bool true)], args := [d1, d2, d3] }
  | _ => none }
def ringApartRow : OpenClaim := { program := "ytllibgjajlgnbab", sum := "88b20d3067a417dfe5493262a24bbadbf972249ef0e1d8fbd0272008a99d5d5f", func := "impost/impostlaw18.RingApart", spec := "ringApart", apart := false }
def RingApartSaid : Prop := ringApartRow.holds Try.pinned (OpenSpec.ofChange ringApartSpec)

/-- ITS FALSE NEIGHBOUR: 'it returns false'. Refute it at one input. -/
def ringApartWrong : ChangeSpec := { name := "ringApart", fn := fun _ => fun
  | [d1, d2, d3] => { results := [.lit (.bool false)], args := [d1, d2, d3] }
  | _ => none }
def RingApartWrongFalsely : Prop := ringApartRow.holds Try.pinned (OpenSpec.ofChange ringApartWrong)

/-- 'impostlaw18.RingPlays': WHATEVER THE INPUT: true; the input reads as it did. -/
def ringPlaysSpec : ChangeSpec := { name := "ringPlays", fn := fun _ => fun
  | [d] => { results := [.lit (.bool true)], args := [d] }
  | _ => none }
def ringPlaysRow : OpenClaim := { program := "ytllibgjajlgnbab", sum := "88b20d3067a417dfe5493262a24bbadbf972249ef0e1d8fbd0272008a99d5d5f", func := "impost/impostlaw18.RingPlays", spec := "ringPlays", apart := false }
def RingPlaysSaid : Prop := ringPlaysRow.holds Try.pinned (OpenSpec.ofChange ringPlaysSpec)

/-- ITS FALSE NEIGHBOUR: 'it returns false'. Refute it at one input. -/
def ringPlaysWrong : ChangeSpec := { name := "ringPlays", fn := fun _ => fun
  | [d] => { results := [.lit (.bool false)], args := [d] }
  | _ => none }
def RingPlaysWrongFalsely : Prop := ringPlaysRow.holds Try.pinned (OpenSpec.ofChange ringPlaysWrong)

/-- 'impostlaw17.ChainNobody': WHATEVER THE INPUT: true; the input reads as it did. -/
def chainNobodySpec : ChangeSpec := { name := "chainNobody", fn := fun _ => fun
  | [d1, d2, d3] => { results := [.lit (.bool true)], args := [d1, d2, d3] }
  | _ => none }
def chainNobodyRow : OpenClaim := { program := "ytllibgjajlgnbab", sum := "88b20d3067a417dfe5493262a24bbadbf972249ef0e1d8fbd0272008a99d5d5f", func := "impost/impostlaw17.ChainNobody", spec := "chainNobody", apart := false }
def ChainNobodySaid : Prop := chainNobodyRow.holds Try.pinned (OpenSpec.ofChange chainNobodySpec)

/-- ITS FALSE NEIGHBOUR: 'it returns false'. Refute it at one input. -/
def chainNobodyWrong : ChangeSpec := { name := "chainNobody", fn := fun _ => fun
  | [d1, d2, d3] => { results := [.lit (.bool false)], args := [d1, d2, d3] }
  | _ => none }
def ChainNobodyWrongFalsely : Prop := chainNobodyRow.holds Try.pinned (OpenSpec.ofChange chainNobodyWrong)

/-- 'impostlaw17.ChainSteps': WHATEVER THE INPUT: true; the input reads as it did. -/
def chainStepsSpec : ChangeSpec := { name := "chainSteps", fn := fun _ => fun
  | [d1, d2, d3] => { results := [.lit (.bool true)], args := [d1, d2, d3] }
  | _ => none }
def chainStepsRow : OpenClaim := { program := "ytllibgjajlgnbab", sum := "88b20d3067a417dfe5493262a24bbadbf972249ef0e1d8fbd0272008a99d5d5f", func := "impost/impostlaw17.ChainSteps", spec := "chainSteps", apart := false }
def ChainStepsSaid : Prop := chainStepsRow.holds Try.pinned (OpenSpec.ofChange chainStepsSpec)

/-- ITS FALSE NEIGHBOUR: 'it returns false'. Refute it at one input. -/
def chainStepsWrong : ChangeSpec := { name := "chainSteps", fn := fun _ => fun
  | [d1, d2, d3] => { results := [.lit (.bool false)], args := [d1, d2, d3] }
  | _ => none }
def ChainStepsWrongFalsely : Prop := chainStepsRow.holds Try.pinned (OpenSpec.ofChange chainStepsWrong)

/-- 'impostlaw17.ChainPuts': WHATEVER THE INPUT: true; the input reads as it did. -/
def chainPutsSpec : ChangeSpec := { name := "chainPuts", fn := fun _ => fun
  | [d1, d2] => { results := [.lit (.bool true)], args := [d1, d2] }
  | _ => none }
def chainPutsRow : OpenClaim := { program := "ytllibgjajlgnbab", sum := "88b20d3067a417dfe5493262a24bbadbf972249ef0e1d8fbd0272008a99d5d5f", func := "impost/impostlaw17.ChainPuts", spec := "chainPuts", apart := false }
def ChainPutsSaid : Prop := chainPutsRow.holds Try.pinned (OpenSpec.ofChange chainPutsSpec)

/-- ITS FALSE NEIGHBOUR: 'it returns false'. Refute it at one input. -/
def chainPutsWrong : ChangeSpec := { name := "chainPuts", fn := fun _ => fun
  | [d1, d2] => { results := [.lit (.bool false)], args := [d1, d2] }
  | _ => none }
def ChainPutsWrongFalsely : Prop := chainPutsRow.holds Try.pinned (OpenSpec.ofChange chainPutsWrong)

/-- 'impostlaw17.ChainStays': WHATEVER THE INPUT: true; the input reads as it did. -/
def chainStaysSpec : ChangeSpec := { name := "chainStays", fn := fun _ => fun
  | [d1, d2, d3] => { results := [.lit (.bool true)], args := [d1, d2, d3] }
  | _ => none }
def chainStaysRow : OpenClaim := { program := "ytllibgjajlgnbab", sum := "88b20d3067a417dfe5493262a24bbadbf972249ef0e1d8fbd0272008a99d5d5f", func := "impost/impostlaw17.ChainStays", spec := "chainStays", apart := false }
def ChainStaysSaid : Prop := chainStaysRow.holds Try.pinned (OpenSpec.ofChange chainStaysSpec)

/-- ITS FALSE NEIGHBOUR: 'it returns false'. Refute it at one input. -/
def chainStaysWrong : ChangeSpec := { name := "chainStays", fn := fun _ => fun
  | [d1, d2, d3] => { results := [.lit (.bool false)], args := [d1, d2, d3] }
  | _ => none }
def ChainStaysWrongFalsely : Prop := chainStaysRow.holds Try.pinned (OpenSpec.ofChange chainStaysWrong)

/-- 'impostlaw17.ChainTwo': WHATEVER THE INPUT: true; the input reads as it did. -/
def chainTwoSpec : ChangeSpec := { name := "chainTwo", fn := fun _ => fun
  | [d1, d2, d3] => { results := [.lit (.bool true)], args := [d1, d2, d3] }
  | _ => none }
def chainTwoRow : OpenClaim := { program := "ytllibgjajlgnbab", sum := "88b20d3067a417dfe5493262a24bbadbf972249ef0e1d8fbd0272008a99d5d5f", func := "impost/impostlaw17.ChainTwo", spec := "chainTwo", apart := false }
def ChainTwoSaid : Prop := chainTwoRow.holds Try.pinned (OpenSpec.ofChange chainTwoSpec)

/-- ITS FALSE NEIGHBOUR: 'it returns false'. Refute it at one input. -/
def chainTwoWrong : ChangeSpec := { name := "chainTwo", fn := fun _ => fun
  | [d1, d2, d3] => { results := [.lit (.bool false)], args := [d1, d2, d3] }
  | _ => none }
def ChainTwoWrongFalsely : Prop := chainTwoRow.holds Try.pinned (OpenSpec.ofChange chainTwoWrong)

/- THE SECOND FORM. 'bulk': how many values and letters a reading holds, each counted each time it is reached (what is shared counts as often as it is met; a slice's spare places count too). A statement '..UptoSaid' is the law's where the arguments, and the package variables that the reading takes, are together of bulk at most 1048576: NARROWER than '..Said'. Prove '..Said' where nothing that the law and all that it calls make is longer than what came in: it says more and counts as full. Else prove '..UptoSaid'. A law counts once. -/
mutual
def uptoBulk {H : Type} : DataW H → Nat
  | .lit (.string bytes) => bytes.length + 1
  | .lit _ => 1
  | .nil => 1
  | .ptr d => uptoBulk d + 1
  | .slice elems spare => uptoBulkAll elems + uptoBulkAll spare + 1
  | .agg parts => uptoBulkAll parts + 1
  | .iface _ d => uptoBulk d + 1
  | .map entries => uptoBulkEntries entries + 1
  | .held _ => 1
def uptoBulkAll {H : Type} : List (DataW H) → Nat
  | [] => 0
  | d :: r => uptoBulk d + uptoBulkAll r
def uptoBulkEntries {H : Type} : List (Lit × DataW H) → Nat
  | [] => 0
  | x :: r => uptoBulkEntry x + uptoBulkEntries r
def uptoBulkEntry {H : Type} : Lit × DataW H → Nat
  | (.string bytes, d) => bytes.length + uptoBulk d + 1
  | (_, d) => uptoBulk d + 1
 end
def uptoSmall : (H : Type) → List (DataW H) → Bool := fun _ ds => decide (uptoBulkAll ds ≤ 1048576)
def OpenSpec.upto (s : _root_.Go.ChangeSpec) : _root_.Go.OpenSpec := { _root_.Go.OpenSpec.ofChange s with cond := some uptoSmall }

/-- 'impostlaw18.RingOnce', WHERE WHAT IT READS IS OF BULK AT MOST 1048576: true; the input reads as it did. -/
def ringOnceUptoRow : OpenClaim := { program := "ytllibgjajlgnbab", sum := "88b20d3067a417dfe5493262a24bbadbf972249ef0e1d8fbd0272008a99d5d5f", func := "impost/impostlaw18.RingOnce", spec := "ringOnce", apart := false, narrowed := true }
def RingOnceUptoSaid : Prop := ringOnceUptoRow.holds Try.pinned (OpenSpec.upto ringOnceSpec)

/-- 'impostlaw18.RingStays', WHERE WHAT IT READS IS OF BULK AT MOST 1048576: true; the input reads as it did. -/
def ringStaysUptoRow : OpenClaim := { program := "ytllibgjajlgnbab", sum := "88b20d3067a417dfe5493262a24bbadbf972249ef0e1d8fbd0272008a99d5d5f", func := "impost/impostlaw18.RingStays", spec := "ringStays", apart := false, narrowed := true }
def RingStaysUptoSaid : Prop := ringStaysUptoRow.holds Try.pinned (OpenSpec.upto ringStaysSpec)

/-- 'impostlaw18.RingHeads', WHERE WHAT IT READS IS OF BULK AT MOST 1048576: true; the input reads as it did. -/
def ringHeadsUptoRow : OpenClaim := { program := "ytllibgjajlgnbab", sum := "88b20d3067a417dfe5493262a24bbadbf972249ef0e1d8fbd0272008a99d5d5f", func := "impost/impostlaw18.RingHeads", spec := "ringHeads", apart := false, narrowed := true }
def RingHeadsUptoSaid : Prop := ringHeadsUptoRow.holds Try.pinned (OpenSpec.upto ringHeadsSpec)

/-- 'impostlaw18.RingApart', WHERE WHAT IT READS IS OF BULK AT MOST 1048576: true; the input reads as it did. -/
def ringApartUptoRow : OpenClaim := { program := "ytllibgjajlgnbab", sum := "88b20d3067a417dfe5493262a24bbadbf972249ef0e1d8fbd0272008a99d5d5f", func := "impost/impostlaw18.RingApart", spec := "ringApart", apart := false, narrowed := true }
def RingApartUptoSaid : Prop := ringApartUptoRow.holds Try.pinned (OpenSpec.upto ringApartSpec)

/-- 'impostlaw18.RingPlays', WHERE WHAT IT READS IS OF BULK AT MOST 1048576: true; the input reads as it did. -/
def ringPlaysUptoRow : OpenClaim := { program := "ytllibgjajlgnbab", sum := "88b20d3067a417dfe5493262a24bbadbf972249ef0e1d8fbd0272008a99d5d5f", func := "impost/impostlaw18.RingPlays", spec := "ringPlays", apart := false, narrowed := true }
def RingPlaysUptoSaid : Prop := ringPlaysUptoRow.holds Try.pinned (OpenSpec.upto ringPlaysSpec)

/-- 'impostlaw17.ChainNobody', WHERE WHAT IT READS IS OF BULK AT MOST 1048576: true; the input reads as it did. -/
def chainNobodyUptoRow : OpenClaim := { program := "ytllibgjajlgnbab", sum := "88b20d3067a417dfe5493262a24bbadbf972249ef0e1d8fbd0272008a99d5d5f", func := "impost/impostlaw17.ChainNobody", spec := "chainNobody", apart := false, narrowed := true }
def ChainNobodyUptoSaid : Prop := chainNobodyUptoRow.holds Try.pinned (OpenSpec.upto chainNobodySpec)

/-- 'impostlaw17.ChainSteps', WHERE WHAT IT READS IS OF BULK AT MOST 1048576: true; the input reads as it did. -/
def chainStepsUptoRow : OpenClaim := { program := "ytllibgjajlgnbab", sum := "88b20d3067a417dfe5493262a24bbadbf972249ef0e1d8fbd0272008a99d5d5f", func := "impost/impostlaw17.ChainSteps", spec := "chainSteps", apart := false, narrowed := true }
def ChainStepsUptoSaid : Prop := chainStepsUptoRow.holds Try.pinned (OpenSpec.upto chainStepsSpec)

/-- 'impostlaw17.ChainPuts', WHERE WHAT IT READS IS OF BULK AT MOST 1048576: true; the input reads as it did. -/
def chainPutsUptoRow : OpenClaim := { program := "ytllibgjajlgnbab", sum := "88b20d3067a417dfe5493262a24bbadbf972249ef0e1d8fbd0272008a99d5d5f", func := "impost/impostlaw17.ChainPuts", spec := "chainPuts", apart := false, narrowed := true }
def ChainPutsUptoSaid : Prop := chainPutsUptoRow.holds Try.pinned (OpenSpec.upto chainPutsSpec)

/-- 'impostlaw17.ChainStays', WHERE WHAT IT READS IS OF BULK AT MOST 1048576: true; the input reads as it did. -/
def chainStaysUptoRow : OpenClaim := { program := "ytllibgjajlgnbab", sum := "88b20d3067a417dfe5493262a24bbadbf972249ef0e1d8fbd0272008a99d5d5f", func := "impost/impostlaw17.ChainStays", spec := "chainStays", apart := false, narrowed := true }
def ChainStaysUptoSaid : Prop := chainStaysUptoRow.holds Try.pinned (OpenSpec.upto chainStaysSpec)

/-- 'impostlaw17.ChainTwo', WHERE WHAT IT READS IS OF BULK AT MOST 1048576: true; the input reads as it did. -/
def chainTwoUptoRow : OpenClaim := { program := "ytllibgjajlgnbab", sum := "88b20d3067a417dfe5493262a24bbadbf972249ef0e1d8fbd0272008a99d5d5f", func := "impost/impostlaw17.ChainTwo", spec := "chainTwo", apart := false, narrowed := true }
def ChainTwoUptoSaid : Prop := chainTwoUptoRow.holds Try.pinned (OpenSpec.upto chainTwoSpec)

end Rows
end Go.Proofs.Ytllibgjajlgnbab
