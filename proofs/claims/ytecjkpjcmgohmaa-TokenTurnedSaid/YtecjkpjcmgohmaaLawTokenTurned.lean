/- TokenTurned: the row, for every input. -/
import Derived.Test.YtecjkpjcmgohmaaRows
import Derived.Test.YtecjkpjcmgohmaaOpen
import Derived.Test.YtecjkpjcmgohmaaWalkTokenTurned
import Derived.WalkKit
import Derived.ProofKit
import Derived.OpenShut
import Derived.ShutString
import Derived.ChangeOld
import Derived.Below
import Derived.SizedLaws
import Derived.Carry
namespace Go.Proofs.Ytecjkpjcmgohmaa.tokenTurned
open Go.ChangeShapes Go.WideShapes Go.ChangeAt Go.RowKit
open Go.ChangeMaps (open_string shut_string)
set_option linter.unusedVariables false
theorem own : ownKnob Try.prog.godebug = none := by kernel_rfl
theorem laidOut : laidOutB Try.prog = true := by kernel_rfl
set_option maxRecDepth 100000 in
theorem lifted (os : Os) (started : os.Started) (H : Type) (enc : TypeId × Value → H) :
    ReturnsInHanded {} Try.checked os 8 .any (Rows.tokenTurnedSpec.pre6 enc Try.prog Try.f8 Rows.tokenTurnedRow.domain false) (Rows.tokenTurnedSpec.post enc Try.prog Try.f8 false true false false) := by
  refine returnsInHanded_of_change_sized (C := Try.checked) own started (by kernel_rfl) Try.func8
    (ChangeSpec.witness6 (enc := enc) (C := Try.checked) false ⟨#[], #[.agg #[.string ByteArray.empty, .string ByteArray.empty, .int .i64 0, .bool false], .int .u16 0], []⟩ 8 (by kernel_rfl) (by kernel_rfl) (by kernel_rfl) (by kernel_rfl)) ?_
  intro W base args ds gs before hval0 hW hcnd hsz0 _
  have hsz : (DataW.weightsEach Try.prog (Try.f8.params.toList ++ Rows.tokenTurnedSpec.plain.varTypes Try.prog) (ds ++ gs)).all (· ≤ reachBytes) = true := hsz0
  have hval : ∀ (j : Nat) t v, Try.f8.params[j]? = some t → args[j]? = some v → Value.okWide Try.prog W .any base t v := hval0
  have hW' := hW
  obtain ⟨p, q, hA0, hV, rfl, hfz, hnd⟩ := hW
  have hA : DataW.TrodAll enc Try.prog W 0 (fun _ => true) true Try.f8.params.toList args.toList ds p := hA0
  rw [Try.params8] at hA hval hsz
  obtain ⟨v0, vs0, d0, ds0, p0, q0, hargs, rfl, rfl, h0, r0⟩ := trodAll_cons hA
  obtain ⟨v1, vs1, d1, ds1, p1, q1, rfl, rfl, rfl, h1, r1⟩ := trodAll_cons r0
  obtain ⟨rfl, rfl, rfl⟩ := trodAll_nil r1
  obtain rfl : args = #[v0, v1] := by cases args; simp_all
  obtain ⟨rfl, rfl⟩ := trodVars_none hV
  have k0 := h0
  have lt0 : ∀ x ∈ p0, x.block < W.heap.size := by obtain ⟨m, hm⟩ := k0; exact DataW.trod_lt m _ _ _ hm
  obtain ⟨c0_0, c0_1, c0_2, c0_3, rfl, kc0_0, kc0_1, kc0_2, kc0_3⟩ := Open.agg4 (P := Try.prog) (.inl ⟨_, Try.underlying25⟩) (by kernel_rfl : Try.prog.cellTypes Try.prog.depth 25 = some [9, 9, 3, 4]) (by kernel_rfl) (hval 0 25 v0 rfl rfl)
  obtain ⟨a0_0, rfl, Ba0_0⟩ := Open.cell_string Try.underlying9 kc0_0
  obtain ⟨a0_1, rfl, Ba0_1⟩ := Open.cell_string Try.underlying9 kc0_1
  obtain ⟨a0_2, rfl, ba0_2⟩ := Open.cell_int Try.underlying3 kc0_2
  have Ba0_2 := Open.has_i64 ba0_2
  obtain ⟨a0_3, rfl⟩ := Open.cell_bool Try.underlying4 kc0_3
  have k1 := h1
  have lt1 : ∀ x ∈ p1, x.block < W.heap.size := by obtain ⟨m, hm⟩ := k1; exact DataW.trod_lt m _ _ _ hm
  obtain ⟨a1, rfl, ba1⟩ := Open.val_int Try.underlying42 (hval 1 42 v1 rfl rfl)
  have Ba1 := Open.has_u16 ba1
  clear hA0 hval0 hsz0 hsz
  refine (WalkTokenTurned.walk a0_0 a0_1 a0_2 a0_3 a1 Ba0_0 Ba0_1 Ba0_2 Ba1 W ).mono fun e W' ⟨he, bel⟩ => ?_
  subst he
  exact ⟨_, rfl, _, _, _, [], _, [], hW', trodAll_mk1 (shut_bool Try.underlying4 _), (trodAll_cons_mk (Below.trod laidOut (by kernel_rfl) (of_decide_eq_true (by kernel_rfl)) k0 bel lt0) (trodAll_cons_mk (Below.trod laidOut (by kernel_rfl) (of_decide_eq_true (by kernel_rfl)) k1 bel lt1) trodAll_mk0)), rfl, bel.frame _, fun h => by cases h⟩
theorem over : Rows.tokenTurnedRow.holds Try.pinned (OpenSpec.ofChange Rows.tokenTurnedSpec) :=
  OpenClaim.holds_of_wide 8 Try.f8 rfl rfl rfl rfl rfl rfl rfl ⟨rfl, rfl, rfl, rfl, rfl⟩ rfl rfl rfl rfl rfl (by kernel_rfl) Try.func8 (by kernel_rfl)
    (of_decide_eq_true (by kernel_rfl)) (by unfold Func.isWrapper; first | (rw [if_pos (by decide +kernel)]; kernel_rfl) | (rw [if_neg (by decide +kernel)]; exact ⟨rfl, rfl⟩))
    (fun os started H enc _ => lifted os started H enc)
theorem proved : Rows.TokenTurnedSaid := over
#print axioms proved
end Go.Proofs.Ytecjkpjcmgohmaa.tokenTurned
namespace Go.Proofs.Ytecjkpjcmgohmaa
/-- The row, under a short name, for the claim. -/
theorem tokenTurned_holds : Rows.TokenTurnedSaid := tokenTurned.proved
end Go.Proofs.Ytecjkpjcmgohmaa
