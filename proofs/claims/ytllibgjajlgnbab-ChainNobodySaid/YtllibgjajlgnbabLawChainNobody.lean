/- ChainNobody: the row, for every input. -/
import Derived.Test.YtllibgjajlgnbabRows
import Derived.Test.YtllibgjajlgnbabOpen
import Derived.Test.YtllibgjajlgnbabWalkChainNobody
import Derived.WalkKit
import Derived.ProofKit
import Derived.OpenShut
import Derived.ShutString
import Derived.ChangeOld
import Derived.Below
import Derived.SizedLaws
import Derived.Carry
namespace Go.Proofs.Ytllibgjajlgnbab.chainNobody
open Go.ChangeShapes Go.WideShapes Go.ChangeAt Go.RowKit
open Go.ChangeMaps (open_string shut_string)
set_option linter.unusedVariables false
theorem own : ownKnob Try.prog.godebug = none := by kernel_rfl
theorem laidOut : laidOutB Try.prog = true := by kernel_rfl
set_option maxRecDepth 100000 in
theorem lifted (os : Os) (started : os.Started) (H : Type) (enc : TypeId × Value → H) :
    ReturnsInHanded {} Try.checked os 8 .any (Rows.chainNobodySpec.pre6 enc Try.prog Try.f8 Rows.chainNobodyRow.domain false) (Rows.chainNobodySpec.post enc Try.prog Try.f8 false true false false) := by
  refine returnsInHanded_of_change_sized (C := Try.checked) own started (by kernel_rfl) Try.func8
    (ChangeSpec.witness6 (enc := enc) (C := Try.checked) false ⟨#[], #[.int .u64 0, .int .i64 0, .agg #[.int .i64 0, .string ByteArray.empty, .string ByteArray.empty, .bool false]], []⟩ 8 (by kernel_rfl) (by kernel_rfl) (by kernel_rfl) (by kernel_rfl)) ?_
  intro W base args ds gs before hval0 hW hcnd hsz0 _
  have hsz : (DataW.weightsEach Try.prog (Try.f8.params.toList ++ Rows.chainNobodySpec.plain.varTypes Try.prog) (ds ++ gs)).all (· ≤ reachBytes) = true := hsz0
  have hval : ∀ (j : Nat) t v, Try.f8.params[j]? = some t → args[j]? = some v → Value.okWide Try.prog W .any base t v := hval0
  have hW' := hW
  obtain ⟨p, q, hA0, hV, rfl, hfz, hnd⟩ := hW
  have hA : DataW.TrodAll enc Try.prog W 0 (fun _ => true) true Try.f8.params.toList args.toList ds p := hA0
  rw [Try.params8] at hA hval hsz
  obtain ⟨v0, vs0, d0, ds0, p0, q0, hargs, rfl, rfl, h0, r0⟩ := trodAll_cons hA
  obtain ⟨v1, vs1, d1, ds1, p1, q1, rfl, rfl, rfl, h1, r1⟩ := trodAll_cons r0
  obtain ⟨v2, vs2, d2, ds2, p2, q2, rfl, rfl, rfl, h2, r2⟩ := trodAll_cons r1
  obtain ⟨rfl, rfl, rfl⟩ := trodAll_nil r2
  obtain rfl : args = #[v0, v1, v2] := by cases args; simp_all
  obtain ⟨rfl, rfl⟩ := trodVars_none hV
  have k0 := h0
  have lt0 : ∀ x ∈ p0, x.block < W.heap.size := by obtain ⟨m, hm⟩ := k0; exact DataW.trod_lt m _ _ _ hm
  obtain ⟨a0, rfl, ba0⟩ := Open.val_int Try.underlying28 (hval 0 28 v0 rfl rfl)
  have Ba0 := Open.has_u64 ba0
  have k1 := h1
  have lt1 : ∀ x ∈ p1, x.block < W.heap.size := by obtain ⟨m, hm⟩ := k1; exact DataW.trod_lt m _ _ _ hm
  obtain ⟨a1, rfl, ba1⟩ := Open.val_int Try.underlying3 (hval 1 3 v1 rfl rfl)
  have Ba1 := Open.has_i64 ba1
  have k2 := h2
  have lt2 : ∀ x ∈ p2, x.block < W.heap.size := by obtain ⟨m, hm⟩ := k2; exact DataW.trod_lt m _ _ _ hm
  obtain ⟨c2_0, c2_1, c2_2, c2_3, rfl, kc2_0, kc2_1, kc2_2, kc2_3⟩ := Open.agg4 (P := Try.prog) (.inl ⟨_, Try.underlying56⟩) (by kernel_rfl : Try.prog.cellTypes Try.prog.depth 56 = some [3, 9, 9, 4]) (by kernel_rfl) (hval 2 56 v2 rfl rfl)
  obtain ⟨a2_0, rfl, ba2_0⟩ := Open.cell_int Try.underlying3 kc2_0
  have Ba2_0 := Open.has_i64 ba2_0
  obtain ⟨a2_1, rfl, Ba2_1⟩ := Open.cell_string Try.underlying9 kc2_1
  obtain ⟨a2_2, rfl, Ba2_2⟩ := Open.cell_string Try.underlying9 kc2_2
  obtain ⟨a2_3, rfl⟩ := Open.cell_bool Try.underlying4 kc2_3
  clear hA0 hval0 hsz0 hsz
  refine (WalkChainNobody.walk a0 a1 a2_0 a2_1 a2_2 a2_3 Ba0 Ba1 Ba2_0 Ba2_1 Ba2_2 W ).mono fun e W' ⟨he, bel⟩ => ?_
  subst he
  exact ⟨_, rfl, _, _, _, [], _, [], hW', trodAll_mk1 (shut_bool Try.underlying4 _), (trodAll_cons_mk (Below.trod laidOut (by kernel_rfl) (of_decide_eq_true (by kernel_rfl)) k0 bel lt0) (trodAll_cons_mk (Below.trod laidOut (by kernel_rfl) (of_decide_eq_true (by kernel_rfl)) k1 bel lt1) (trodAll_cons_mk (Below.trod laidOut (by kernel_rfl) (of_decide_eq_true (by kernel_rfl)) k2 bel lt2) trodAll_mk0))), rfl, bel.frame _, fun h => by cases h⟩
theorem over : Rows.chainNobodyRow.holds Try.pinned (OpenSpec.ofChange Rows.chainNobodySpec) :=
  OpenClaim.holds_of_wide 8 Try.f8 rfl rfl rfl rfl rfl rfl rfl ⟨rfl, rfl, rfl, rfl, rfl⟩ rfl rfl rfl rfl rfl (by kernel_rfl) Try.func8 (by kernel_rfl)
    (of_decide_eq_true (by kernel_rfl)) (by unfold Func.isWrapper; first | (rw [if_pos (by decide +kernel)]; kernel_rfl) | (rw [if_neg (by decide +kernel)]; exact ⟨rfl, rfl⟩))
    (fun os started H enc _ => lifted os started H enc)
theorem proved : Rows.ChainNobodySaid := over
#print axioms proved
end Go.Proofs.Ytllibgjajlgnbab.chainNobody
namespace Go.Proofs.Ytllibgjajlgnbab
/-- The row, under a short name, for the claim. -/
theorem chainNobody_holds : Rows.ChainNobodySaid := chainNobody.proved
end Go.Proofs.Ytllibgjajlgnbab
