/-
  No cell of these rows narrows 'for every input' (looked for: loops, veiled, ifaces, maps, wideKeys, modest, calm, conditions, laid).
  DERIVED. THE GIVEN ROWS OF THIS SEAT. 6 by the template 'for every input the law returns true; each argument reads behind the call as it read before'; 0 by the template 'total and deterministic' (their statements: YtecjkpjcmgohmaaTotals.lean).
  GIVEN WITH THE SEED: the statements are not yours to turn. If you find one false, say at which input.
  Laid BY PROGRAM, IN A SANDBOX (cutbox-rows.mjs): the forced cells as the released guide's own fill.sh prints them over the translation 00e41aee20921cf1… (all of the seat's roots in one cut). By AI agents, Wed Nov 11 2026. No macro, syntax, notation, axiom, sorry.
-/
import Derived.Test.YtecjkpjcmgohmaaChecked
import GoSem.Claim
import GoSem.ClaimJoined
import GoSem.ClaimMapViews
import Derived.JoinedTies
import Derived.KernelRfl
namespace Go.Proofs.Ytecjkpjcmgohmaa
/- THE CELL 'sum', in the pinned program and in every row, IS THE sha256 OF THE DUMP (.gsa) THAT YtecjkpjcmgohmaaProg.lean LOADS. Nothing in Lean hashes anything: it is a label: what it is worth is what the hold of that sum in a sandbox is worth. -/
noncomputable def Try.pinned : Pinned := { name := "ytecjkpjcmgohmaa", sum := "00e41aee20921cf1abfa6c226c699890b09f252a26ecbba25bbcc28bd7c7177c", checked := Try.checked }
namespace Rows
def none {H : Type} : Left H := { results := [], args := [] }

/-- 'impostlaw09.TokenTells': WHATEVER THE INPUT: true; the input reads as it did. -/
def tokenTellsSpec : ChangeSpec := { name := "tokenTells", fn := fun _ => fun
  | [d] => { results := [.lit (.bool true)], args := [d] }
  | _ => none }
def tokenTellsRow : OpenClaim := { program := "ytecjkpjcmgohmaa", sum := "00e41aee20921cf1abfa6c226c699890b09f252a26ecbba25bbcc28bd7c7177c", func := "impost/impostlaw09.TokenTells", spec := "tokenTells", inPlace := ["internal/abi.NoEscape"], apart := false }
def TokenTellsSaid : Prop := tokenTellsRow.holds Try.pinned (OpenSpec.ofChange tokenTellsSpec)

/-- ITS FALSE NEIGHBOUR: 'it returns false'. Refute it at one input. -/
def tokenTellsWrong : ChangeSpec := { name := "tokenTells", fn := fun _ => fun
  | [d] => { results := [.lit (.bool false)], args := [d] }
  | _ => none }
def TokenTellsWrongFalsely : Prop := tokenTellsRow.holds Try.pinned (OpenSpec.ofChange tokenTellsWrong)

/-- 'impostlaw09.TokenTakes': WHATEVER THE INPUT: true; the input reads as it did. -/
def tokenTakesSpec : ChangeSpec := { name := "tokenTakes", fn := fun _ => fun
  | [d] => { results := [.lit (.bool true)], args := [d] }
  | _ => none }
def tokenTakesRow : OpenClaim := { program := "ytecjkpjcmgohmaa", sum := "00e41aee20921cf1abfa6c226c699890b09f252a26ecbba25bbcc28bd7c7177c", func := "impost/impostlaw09.TokenTakes", spec := "tokenTakes", inPlace := ["internal/abi.NoEscape"], apart := false }
def TokenTakesSaid : Prop := tokenTakesRow.holds Try.pinned (OpenSpec.ofChange tokenTakesSpec)

/-- ITS FALSE NEIGHBOUR: 'it returns false'. Refute it at one input. -/
def tokenTakesWrong : ChangeSpec := { name := "tokenTakes", fn := fun _ => fun
  | [d] => { results := [.lit (.bool false)], args := [d] }
  | _ => none }
def TokenTakesWrongFalsely : Prop := tokenTakesRow.holds Try.pinned (OpenSpec.ofChange tokenTakesWrong)

/-- 'impostlaw09.TokenBack': WHATEVER THE INPUT: true; the input reads as it did. -/
def tokenBackSpec : ChangeSpec := { name := "tokenBack", fn := fun _ => fun
  | [d] => { results := [.lit (.bool true)], args := [d] }
  | _ => none }
def tokenBackRow : OpenClaim := { program := "ytecjkpjcmgohmaa", sum := "00e41aee20921cf1abfa6c226c699890b09f252a26ecbba25bbcc28bd7c7177c", func := "impost/impostlaw09.TokenBack", spec := "tokenBack", inPlace := ["internal/abi.NoEscape"], apart := false }
def TokenBackSaid : Prop := tokenBackRow.holds Try.pinned (OpenSpec.ofChange tokenBackSpec)

/-- ITS FALSE NEIGHBOUR: 'it returns false'. Refute it at one input. -/
def tokenBackWrong : ChangeSpec := { name := "tokenBack", fn := fun _ => fun
  | [d] => { results := [.lit (.bool false)], args := [d] }
  | _ => none }
def TokenBackWrongFalsely : Prop := tokenBackRow.holds Try.pinned (OpenSpec.ofChange tokenBackWrong)

/-- 'impostlaw09.TokenVery': WHATEVER THE INPUT: true; the input reads as it did. -/
def tokenVerySpec : ChangeSpec := { name := "tokenVery", fn := fun _ => fun
  | [d1, d2] => { results := [.lit (.bool true)], args := [d1, d2] }
  | _ => none }
def tokenVeryRow : OpenClaim := { program := "ytecjkpjcmgohmaa", sum := "00e41aee20921cf1abfa6c226c699890b09f252a26ecbba25bbcc28bd7c7177c", func := "impost/impostlaw09.TokenVery", spec := "tokenVery", inPlace := ["internal/abi.NoEscape"], apart := false }
def TokenVerySaid : Prop := tokenVeryRow.holds Try.pinned (OpenSpec.ofChange tokenVerySpec)

/-- ITS FALSE NEIGHBOUR: 'it returns false'. Refute it at one input. -/
def tokenVeryWrong : ChangeSpec := { name := "tokenVery", fn := fun _ => fun
  | [d1, d2] => { results := [.lit (.bool false)], args := [d1, d2] }
  | _ => none }
def TokenVeryWrongFalsely : Prop := tokenVeryRow.holds Try.pinned (OpenSpec.ofChange tokenVeryWrong)

/-- 'impostlaw09.TokenOnes': WHATEVER THE INPUT: true; the input reads as it did. -/
def tokenOnesSpec : ChangeSpec := { name := "tokenOnes", fn := fun _ => fun
  | [d1, d2] => { results := [.lit (.bool true)], args := [d1, d2] }
  | _ => none }
def tokenOnesRow : OpenClaim := { program := "ytecjkpjcmgohmaa", sum := "00e41aee20921cf1abfa6c226c699890b09f252a26ecbba25bbcc28bd7c7177c", func := "impost/impostlaw09.TokenOnes", spec := "tokenOnes", inPlace := ["internal/abi.NoEscape"], apart := false }
def TokenOnesSaid : Prop := tokenOnesRow.holds Try.pinned (OpenSpec.ofChange tokenOnesSpec)

/-- ITS FALSE NEIGHBOUR: 'it returns false'. Refute it at one input. -/
def tokenOnesWrong : ChangeSpec := { name := "tokenOnes", fn := fun _ => fun
  | [d1, d2] => { results := [.lit (.bool false)], args := [d1, d2] }
  | _ => none }
def TokenOnesWrongFalsely : Prop := tokenOnesRow.holds Try.pinned (OpenSpec.ofChange tokenOnesWrong)

/-- 'impostlaw09.TokenTurned': WHATEVER THE INPUT: true; the input reads as it did. -/
def tokenTurnedSpec : ChangeSpec := { name := "tokenTurned", fn := fun _ => fun
  | [d1, d2] => { results := [.lit (.bool true)], args := [d1, d2] }
  | _ => none }
def tokenTurnedRow : OpenClaim := { program := "ytecjkpjcmgohmaa", sum := "00e41aee20921cf1abfa6c226c699890b09f252a26ecbba25bbcc28bd7c7177c", func := "impost/impostlaw09.TokenTurned", spec := "tokenTurned", inPlace := ["internal/abi.NoEscape"], apart := false }
def TokenTurnedSaid : Prop := tokenTurnedRow.holds Try.pinned (OpenSpec.ofChange tokenTurnedSpec)

/-- ITS FALSE NEIGHBOUR: 'it returns false'. Refute it at one input. -/
def tokenTurnedWrong : ChangeSpec := { name := "tokenTurned", fn := fun _ => fun
  | [d1, d2] => { results := [.lit (.bool false)], args := [d1, d2] }
  | _ => none }
def TokenTurnedWrongFalsely : Prop := tokenTurnedRow.holds Try.pinned (OpenSpec.ofChange tokenTurnedWrong)

/- THE SECOND FORM. 'bulk': how many values and letters a reading holds, each counted each time it is reached (what is shared counts as often as it is met; a slice's spare places count too). A statement '..UptoSaid' is the law's where the arguments, and the package variables that the reading takes, are together of bulk at most 1048576: NARROWER than '..Said'. Prove '..Said' where nothing that the law and all that it calls make is longer than what came in: it says more and counts as full. Else prove '..UptoSaid'. A law counts once. -/
mutual
def uptoBulk {H : Type} : DataW H → Nat
  | .lit (.string bytes) => bytes.length + 1
  | .lit _ => 1
  | .nil => 1
  | .ptr d => uptoBulk d + 1
  | .slice elems spare => uptoBulkAll elems + uptoBulkAll spare + 1
  | .agg parts => uptoBulkAll parts + 1
  | .iface _ d => uptoBulk d + 1
  | .map entries => uptoBulkEntries entries + 1
  | .held _ => 1
def uptoBulkAll {H : Type} : List (DataW H) → Nat
  | [] => 0
  | d :: r => uptoBulk d + uptoBulkAll r
def uptoBulkEntries {H : Type} : List (Lit × DataW H) → Nat
  | [] => 0
  | x :: r => uptoBulkEntry x + uptoBulkEntries r
def uptoBulkEntry {H : Type} : Lit × DataW H → Nat
  | (.string bytes, d) => bytes.length + uptoBulk d + 1
  | (_, d) => uptoBulk d + 1
 end
def uptoSmall : (H : Type) → List (DataW H) → Bool := fun _ ds => decide (uptoBulkAll ds ≤ 1048576)
def OpenSpec.upto (s : _root_.Go.ChangeSpec) : _root_.Go.OpenSpec := { _root_.Go.OpenSpec.ofChange s with cond := some uptoSmall }

/-- 'impostlaw09.TokenTells', WHERE WHAT IT READS IS OF BULK AT MOST 1048576: true; the input reads as it did. -/
def tokenTellsUptoRow : OpenClaim := { program := "ytecjkpjcmgohmaa", sum := "00e41aee20921cf1abfa6c226c699890b09f252a26ecbba25bbcc28bd7c7177c", func := "impost/impostlaw09.TokenTells", spec := "tokenTells", inPlace := ["internal/abi.NoEscape"], apart := false, narrowed := true }
def TokenTellsUptoSaid : Prop := tokenTellsUptoRow.holds Try.pinned (OpenSpec.upto tokenTellsSpec)

/-- 'impostlaw09.TokenTakes', WHERE WHAT IT READS IS OF BULK AT MOST 1048576: true; the input reads as it did. -/
def tokenTakesUptoRow : OpenClaim := { program := "ytecjkpjcmgohmaa", sum := "00e41aee20921cf1abfa6c226c699890b09f252a26ecbba25bbcc28bd7c7177c", func := "impost/impostlaw09.TokenTakes", spec := "tokenTakes", inPlace := ["internal/abi.NoEscape"], apart := false, narrowed := true }
def TokenTakesUptoSaid : Prop := tokenTakesUptoRow.holds Try.pinned (OpenSpec.upto tokenTakesSpec)

/-- 'impostlaw09.TokenBack', WHERE WHAT IT READS IS OF BULK AT MOST 1048576: true; the input reads as it did. -/
def tokenBackUptoRow : OpenClaim := { program := "ytecjkpjcmgohmaa", sum := "00e41aee20921cf1abfa6c226c699890b09f252a26ecbba25bbcc28bd7c7177c", func := "impost/impostlaw09.TokenBack", spec := "tokenBack", inPlace := ["internal/abi.NoEscape"], apart := false, narrowed := true }
def TokenBackUptoSaid : Prop := tokenBackUptoRow.holds Try.pinned (OpenSpec.upto tokenBackSpec)

/-- 'impostlaw09.TokenVery', WHERE WHAT IT READS IS OF BULK AT MOST 1048576: true; the input reads as it did. -/
def tokenVeryUptoRow : OpenClaim := { program := "ytecjkpjcmgohmaa", sum := "00e41aee20921cf1abfa6c226c699890b09f252a26ecbba25bbcc28bd7c7177c", func := "impost/impostlaw09.TokenVery", spec := "tokenVery", inPlace := ["internal/abi.NoEscape"], apart := false, narrowed := true }
def TokenVeryUptoSaid : Prop := tokenVeryUptoRow.holds Try.pinned (OpenSpec.upto tokenVerySpec)

/-- 'impostlaw09.TokenOnes', WHERE WHAT IT READS IS OF BULK AT MOST 1048576: true; the input reads as it did. -/
def tokenOnesUptoRow : OpenClaim := { program := "ytecjkpjcmgohmaa", sum := "00e41aee20921cf1abfa6c226c699890b09f252a26ecbba25bbcc28bd7c7177c", func := "impost/impostlaw09.TokenOnes", spec := "tokenOnes", inPlace := ["internal/abi.NoEscape"], apart := false, narrowed := true }
def TokenOnesUptoSaid : Prop := tokenOnesUptoRow.holds Try.pinned (OpenSpec.upto tokenOnesSpec)

/-- 'impostlaw09.TokenTurned', WHERE WHAT IT READS IS OF BULK AT MOST 1048576: true; the input reads as it did. -/
def tokenTurnedUptoRow : OpenClaim := { program := "ytecjkpjcmgohmaa", sum := "00e41aee20921cf1abfa6c226c699890b09f252a26ecbba25bbcc28bd7c7177c", func := "impost/impostlaw09.TokenTurned", spec := "tokenTurned", inPlace := ["internal/abi.NoEscape"], apart := false, narrowed := true }
def TokenTurnedUptoSaid : Prop := tokenTurnedUptoRow.holds Try.pinned (OpenSpec.upto tokenTurnedSpec)

end Rows
end Go.Proofs.Ytecjkpjcmgohmaa
