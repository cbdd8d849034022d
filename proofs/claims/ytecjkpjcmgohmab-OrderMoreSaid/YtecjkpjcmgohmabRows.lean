/-
  No cell of these rows narrows 'for every input' (looked for: loops, veiled, ifaces, maps, wideKeys, modest, calm, conditions, laid).
  DERIVED. THE GIVEN ROWS OF THIS SEAT. 6 by the template 'for every input the law returns true; each argument reads behind the call as it read before'; 0 by the template 'total and deterministic' (their statements: YtecjkpjcmgohmabTotals.lean).
  GIVEN WITH THE SEED: the statements are not yours to turn. If you find one false, say at which input.
  Laid BY PROGRAM, IN A SANDBOX (cutbox-rows.mjs): the forced cells as the released guide's own fill.sh prints them over the translation 5871a707494813fc… (all of the seat's roots in one cut). By AI agents, Wed Nov 11 2026. No macro, syntax, notation, axiom, sorry.
-/
import Derived.Test.YtecjkpjcmgohmabChecked
import GoSem.Claim
import GoSem.ClaimJoined
import GoSem.ClaimMapViews
import Derived.JoinedTies
import Derived.KernelRfl
namespace Go.Proofs.Ytecjkpjcmgohmab
/- THE CELL 'sum', in the pinned program and in every row, IS THE sha256 OF THE DUMP (.gsa) THAT YtecjkpjcmgohmabProg.lean LOADS. Nothing in Lean hashes anything: it is a label: what it is worth is what the hold of that sum in a sandbox is worth. -/
noncomputable def Try.pinned : Pinned := { name := "ytecjkpjcmgohmab", sum := "5871a707494813fc033ff487d719a2b18bf3302b2ce36b34f9230a084fc70913", checked := Try.checked }
namespace Rows
def none {H : Type} : Left H := { results := [], args := [] }

/-- 'impostlaw14.OrderTells': WHATEVER THE INPUT: true; the input reads as it did. -/
def orderTellsSpec : ChangeSpec := { name := "orderTells", fn := fun _ => fun
  | [d1, d2] => { results := [.lit (.bool true)], args := [d1, d2] }
  | _ => none }
def orderTellsRow : OpenClaim := { program := "ytecjkpjcmgohmab", sum := "5871a707494813fc033ff487d719a2b18bf3302b2ce36b34f9230a084fc70913", func := "impost/impostlaw14.OrderTells", spec := "orderTells", unfollowed := true, recurses := true, plainKeys := false, apart := false }
def OrderTellsSaid : Prop := orderTellsRow.holds Try.pinned (OpenSpec.ofChange orderTellsSpec)

/-- ITS FALSE NEIGHBOUR: 'it returns false'. Refute it at one input. -/
def orderTellsWrong : ChangeSpec := { name := "orderTells", fn := fun _ => fun
  | [d1, d2] => { results := [.lit (.bool false)], args := [d1, d2] }
  | _ => none }
def OrderTellsWrongFalsely : Prop := orderTellsRow.holds Try.pinned (OpenSpec.ofChange orderTellsWrong)

/-- 'impostlaw14.OrderRuns': WHATEVER THE INPUT: true; the input reads as it did. -/
def orderRunsSpec : ChangeSpec := { name := "orderRuns", fn := fun _ => fun
  | [d1, d2] => { results := [.lit (.bool true)], args := [d1, d2] }
  | _ => none }
def orderRunsRow : OpenClaim := { program := "ytecjkpjcmgohmab", sum := "5871a707494813fc033ff487d719a2b18bf3302b2ce36b34f9230a084fc70913", func := "impost/impostlaw14.OrderRuns", spec := "orderRuns", unfollowed := true, recurses := true, plainKeys := false, apart := false }
def OrderRunsSaid : Prop := orderRunsRow.holds Try.pinned (OpenSpec.ofChange orderRunsSpec)

/-- ITS FALSE NEIGHBOUR: 'it returns false'. Refute it at one input. -/
def orderRunsWrong : ChangeSpec := { name := "orderRuns", fn := fun _ => fun
  | [d1, d2] => { results := [.lit (.bool false)], args := [d1, d2] }
  | _ => none }
def OrderRunsWrongFalsely : Prop := orderRunsRow.holds Try.pinned (OpenSpec.ofChange orderRunsWrong)

/-- 'impostlaw14.OrderKeys': WHATEVER THE INPUT: true; the input reads as it did. -/
def orderKeysSpec : ChangeSpec := { name := "orderKeys", fn := fun _ => fun
  | [d1, d2] => { results := [.lit (.bool true)], args := [d1, d2] }
  | _ => none }
def orderKeysRow : OpenClaim := { program := "ytecjkpjcmgohmab", sum := "5871a707494813fc033ff487d719a2b18bf3302b2ce36b34f9230a084fc70913", func := "impost/impostlaw14.OrderKeys", spec := "orderKeys", unfollowed := true, recurses := true, plainKeys := false, apart := false }
def OrderKeysSaid : Prop := orderKeysRow.holds Try.pinned (OpenSpec.ofChange orderKeysSpec)

/-- ITS FALSE NEIGHBOUR: 'it returns false'. Refute it at one input. -/
def orderKeysWrong : ChangeSpec := { name := "orderKeys", fn := fun _ => fun
  | [d1, d2] => { results := [.lit (.bool false)], args := [d1, d2] }
  | _ => none }
def OrderKeysWrongFalsely : Prop := orderKeysRow.holds Try.pinned (OpenSpec.ofChange orderKeysWrong)

/-- 'impostlaw14.OrderDone': WHATEVER THE INPUT: true; the input reads as it did. -/
def orderDoneSpec : ChangeSpec := { name := "orderDone", fn := fun _ => fun
  | [d1, d2, d3] => { results := [.lit (.bool true)], args := [d1, d2, d3] }
  | _ => none }
def orderDoneRow : OpenClaim := { program := "ytecjkpjcmgohmab", sum := "5871a707494813fc033ff487d719a2b18bf3302b2ce36b34f9230a084fc70913", func := "impost/impostlaw14.OrderDone", spec := "orderDone", unfollowed := true, recurses := true, plainKeys := false, apart := false }
def OrderDoneSaid : Prop := orderDoneRow.holds Try.pinned (OpenSpec.ofChange orderDoneSpec)

/-- ITS FALSE NEIGHBOUR: 'it returns false'. Refute it at one input. -/
def orderDoneWrong : ChangeSpec := { name := "orderDone", fn := fun _ => fun
  | [d1, d2, d3] => { results := [.lit (.bool false)], args := [d1, d2, d3] }
  | _ => none }
def OrderDoneWrongFalsely : Prop := orderDoneRow.holds Try.pinned (OpenSpec.ofChange orderDoneWrong)

/-- 'impostlaw14.OrderMore': WHATEVER THE INPUT: true; the input reads as it did. -/
def orderMoreSpec : ChangeSpec := { name := "orderMore", fn := fun _ => fun
  | [d1, d2, d3] => { results := [.lit (.bool true)], args := [d1, d2, d3] }
  | _ => none }
def orderMoreRow : OpenClaim := { program := "ytecjkpjcmgohmab", sum := "5871a707494813fc033ff487d719a2b18bf3302b2ce36b34f9230a084fc70913", func := "impost/impostlaw14.OrderMore", spec := "orderMore", unfollowed := true, recurses := true, plainKeys := false, apart := false }
def OrderMoreSaid : Prop := orderMoreRow.holds Try.pinned (OpenSpec.ofChange orderMoreSpec)

/-- ITS FALSE NEIGHBOUR: 'it returns false'. Refute it at one input. -/
def orderMoreWrong : ChangeSpec := { name := "orderMore", fn := fun _ => fun
  | [d1, d2, d3] => { results := [.lit (.bool false)], args := [d1, d2, d3] }
  | _ => none }
def OrderMoreWrongFalsely : Prop := orderMoreRow.holds Try.pinned (OpenSpec.ofChange orderMoreWrong)

/-- 'impostlaw14.OrderEmpty': WHATEVER THE INPUT: true; the input reads as it did. -/
def orderEmptySpec : ChangeSpec := { name := "orderEmpty", fn := fun _ => fun
  | [d1, d2] => { results := [.lit (.bool true)], args := [d1, d2] }
  | _ => none }
def orderEmptyRow : OpenClaim := { program := "ytecjkpjcmgohmab", sum := "5871a707494813fc033ff487d719a2b18bf3302b2ce36b34f9230a084fc70913", func := "impost/impostlaw14.OrderEmpty", spec := "orderEmpty", unfollowed := true, recurses := true, plainKeys := false, apart := false }
def OrderEmptySaid : Prop := orderEmptyRow.holds Try.pinned (OpenSpec.ofChange orderEmptySpec)

/-- ITS FALSE NEIGHBOUR: 'it returns false'. Refute it at one input. -/
def orderEmptyWrong : ChangeSpec := { name := "orderEmpty", fn := fun _ => fun
  | [d1, d2] => { results := [.lit (.bool false)], args := [d1, d2] }
  | _ => none }
def OrderEmptyWrongFalsely : Prop := orderEmptyRow.holds Try.pinned (OpenSpec.ofChange orderEmptyWrong)

/- THE SECOND FORM. 'bulk': how many values and letters a reading holds, each counted each time it is reached (what is shared counts as often as it is met; a slice's spare places count too). A statement '..UptoSaid' is the law's where the arguments, and the package variables that the reading takes, are together of bulk at most 1048576: NARROWER than '..Said'. Prove '..Said' where nothing that the law and all that it calls make is longer than what came in: it says more and counts as full. Else prove '..UptoSaid'. A law counts once. -/
mutual
def uptoBulk {H : Type} : DataW H → Nat
  | .lit (.string bytes) => bytes.length + 1
  | .lit _ => 1
  | .nil => 1
  | .ptr d => uptoBulk d + 1
  | .slice elems spare => uptoBulkAll elems + uptoBulkAll spare + 1
  | .agg parts => uptoBulkAll parts + 1
  | .iface _ d => uptoBulk d + 1
  | .map entries => uptoBulkEntries entries + 1
  | .held _ => 1
def uptoBulkAll {H : Type} : List (DataW H) → Nat
  | [] => 0
  | d :: r => uptoBulk d + uptoBulkAll r
def uptoBulkEntries {H : Type} : List (Lit × DataW H) → Nat
  | [] => 0
  | x :: r => uptoBulkEntry x + uptoBulkEntries r
def uptoBulkEntry {H : Type} : Lit × DataW H → Nat
  | (.string bytes, d) => bytes.length + uptoBulk d + 1
  | (_, d) => uptoBulk d + 1
 end
def uptoSmall : (H : Type) → List (DataW H) → Bool := fun _ ds => decide (uptoBulkAll ds ≤ 1048576)
def OpenSpec.upto (s : _root_.Go.ChangeSpec) : _root_.Go.OpenSpec := { _root_.Go.OpenSpec.ofChange s with cond := some uptoSmall }

/-- 'impostlaw14.OrderTells', WHERE WHAT IT READS IS OF BULK AT MOST 1048576: true; the input reads as it did. -/
def orderTellsUptoRow : OpenClaim := { program := "ytecjkpjcmgohmab", sum := "5871a707494813fc033ff487d719a2b18bf3302b2ce36b34f9230a084fc70913", func := "impost/impostlaw14.OrderTells", spec := "orderTells", unfollowed := true, recurses := true, plainKeys := false, apart := false, narrowed := true }
def OrderTellsUptoSaid : Prop := orderTellsUptoRow.holds Try.pinned (OpenSpec.upto orderTellsSpec)

/-- 'impostlaw14.OrderRuns', WHERE WHAT IT READS IS OF BULK AT MOST 1048576: true; the input reads as it did. -/
def orderRunsUptoRow : OpenClaim := { program := "ytecjkpjcmgohmab", sum := "5871a707494813fc033ff487d719a2b18bf3302b2ce36b34f9230a084fc70913", func := "impost/impostlaw14.OrderRuns", spec := "orderRuns", unfollowed := true, recurses := true, plainKeys := false, apart := false, narrowed := true }
def OrderRunsUptoSaid : Prop := orderRunsUptoRow.holds Try.pinned (OpenSpec.upto orderRunsSpec)

/-- 'impostlaw14.OrderKeys', WHERE WHAT IT READS IS OF BULK AT MOST 1048576: true; the input reads as it did. -/
def orderKeysUptoRow : OpenClaim := { program := "ytecjkpjcmgohmab", sum := "5871a707494813fc033ff487d719a2b18bf3302b2ce36b34f9230a084fc70913", func := "impost/impostlaw14.OrderKeys", spec := "orderKeys", unfollowed := true, recurses := true, plainKeys := false, apart := false, narrowed := true }
def OrderKeysUptoSaid : Prop := orderKeysUptoRow.holds Try.pinned (OpenSpec.upto orderKeysSpec)

/-- 'impostlaw14.OrderDone', WHERE WHAT IT READS IS OF BULK AT MOST 1048576: true; the input reads as it did. -/
def orderDoneUptoRow : OpenClaim := { program := "ytecjkpjcmgohmab", sum := "5871a707494813fc033ff487d719a2b18bf3302b2ce36b34f9230a084fc70913", func := "impost/impostlaw14.OrderDone", spec := "orderDone", unfollowed := true, recurses := true, plainKeys := false, apart := false, narrowed := true }
def OrderDoneUptoSaid : Prop := orderDoneUptoRow.holds Try.pinned (OpenSpec.upto orderDoneSpec)

/-- 'impostlaw14.OrderMore', WHERE WHAT IT READS IS OF BULK AT MOST 1048576: true; the input reads as it did. -/
def orderMoreUptoRow : OpenClaim := { program := "ytecjkpjcmgohmab", sum := "5871a707494813fc033ff487d719a2b18bf3302b2ce36b34f9230a084fc70913", func := "impost/impostlaw14.OrderMore", spec := "orderMore", unfollowed := true, recurses := true, plainKeys := false, apart := false, narrowed := true }
def OrderMoreUptoSaid : Prop := orderMoreUptoRow.holds Try.pinned (OpenSpec.upto orderMoreSpec)

/-- 'impostlaw14.OrderEmpty', WHERE WHAT IT READS IS OF BULK AT MOST 1048576: true; the input reads as it did. -/
def orderEmptyUptoRow : OpenClaim := { program := "ytecjkpjcmgohmab", sum := "5871a707494813fc033ff487d719a2b18bf3302b2ce36b34f9230a084fc70913", func := "impost/impostlaw14.OrderEmpty", spec := "orderEmpty", unfollowed := true, recurses := true, plainKeys := false, apart := false, narrowed := true }
def OrderEmptyUptoSaid : Prop := orderEmptyUptoRow.holds Try.pinned (OpenSpec.upto orderEmptySpec)

end Rows
end Go.Proofs.Ytecjkpjcmgohmab
