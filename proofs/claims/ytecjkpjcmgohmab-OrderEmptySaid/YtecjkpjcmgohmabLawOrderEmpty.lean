/- OrderEmpty: the row, for every input. -/
import Derived.Test.YtecjkpjcmgohmabRows
import Derived.Test.YtecjkpjcmgohmabOpen
import Derived.Test.YtecjkpjcmgohmabArgs
import Derived.Test.YtecjkpjcmgohmabWalkOrderEmpty
import Derived.WalkKit
import Derived.ProofKit
import Derived.OpenShut
import Derived.ShutString
import Derived.ChangeOld
import Derived.Below
import Derived.SizedLaws
import Derived.Carry
namespace Go.Proofs.Ytecjkpjcmgohmab.orderEmpty
open Go.ChangeShapes Go.WideShapes Go.ChangeAt Go.RowKit
open Go.ChangeMaps (open_string shut_string)
set_option linter.unusedVariables false
theorem own : ownKnob Try.prog.godebug = none := by kernel_rfl
theorem laidOut : laidOutB Try.prog = true := by kernel_rfl
set_option maxRecDepth 100000 in
theorem lifted (os : Os) (started : os.Started) (H : Type) (enc : TypeId × Value → H) :
    ReturnsInHanded {} Try.checked os 8 .any (Rows.orderEmptySpec.pre6 enc Try.prog Try.f8 Rows.orderEmptyRow.domain false) (Rows.orderEmptySpec.post enc Try.prog Try.f8 false true false false) := by
  refine returnsInHanded_of_change_sized (C := Try.checked) own started (by kernel_rfl) Try.func8
    (ChangeSpec.witness6 (enc := enc) (C := Try.checked) false ⟨#[], #[.slice none 0 0, .agg #[.int .i64 0, .string ByteArray.empty, .bool false, .int .i64 0, .int .i64 0]], []⟩ 8 (by kernel_rfl) (by kernel_rfl) (by kernel_rfl) (by kernel_rfl)) ?_
  intro W base args ds gs before hval0 hW hcnd hsz0 _
  have hsz : (DataW.weightsEach Try.prog (Try.f8.params.toList ++ Rows.orderEmptySpec.plain.varTypes Try.prog) (ds ++ gs)).all (· ≤ reachBytes) = true := hsz0
  have hval : ∀ (j : Nat) t v, Try.f8.params[j]? = some t → args[j]? = some v → Value.okWide Try.prog W .any base t v := hval0
  have hW' := hW
  obtain ⟨p, q, hA0, hV, rfl, hfz, hnd⟩ := hW
  have hA : DataW.TrodAll enc Try.prog W 0 (fun _ => true) true Try.f8.params.toList args.toList ds p := hA0
  rw [Try.params8] at hA hval hsz
  obtain ⟨v0, vs0, d0, ds0, p0, q0, hargs, rfl, rfl, h0, r0⟩ := trodAll_cons hA
  obtain ⟨v1, vs1, d1, ds1, p1, q1, rfl, rfl, rfl, h1, r1⟩ := trodAll_cons r0
  obtain ⟨rfl, rfl, rfl⟩ := trodAll_nil r1
  obtain rfl : args = #[v0, v1] := by cases args; simp_all
  obtain ⟨rfl, rfl⟩ := trodVars_none hV
  have k0 := h0
  have lt0 : ∀ x ∈ p0, x.block < W.heap.size := by obtain ⟨m, hm⟩ := k0; exact DataW.trod_lt m _ _ _ hm
  obtain ⟨a0, len0, cap0, rfl⟩ := okWide_slice Try.underlying22 (hval 0 22 v0 rfl rfl)
  obtain ⟨zs0, y0⟩ := Args.structsV (P := Try.prog) [.str] Try.underlying22 (by kernel_rfl) (by decide) (fun j k hk => by match j, hk with | 0, hk => cases hk; exact (.str Try.underlying9) | n + 1, hk => cases hk) rfl h0
  have k1 := h1
  have lt1 : ∀ x ∈ p1, x.block < W.heap.size := by obtain ⟨m, hm⟩ := k1; exact DataW.trod_lt m _ _ _ hm
  obtain ⟨c1_0, c1_1, c1_2, c1_3, c1_4, rfl, kc1_0, kc1_1, kc1_2, kc1_3, kc1_4⟩ := Open.agg5 (P := Try.prog) (.inl ⟨_, Try.underlying31⟩) (by kernel_rfl : Try.prog.cellTypes Try.prog.depth 31 = some [3, 9, 4, 3, 3]) (by kernel_rfl) (hval 1 31 v1 rfl rfl)
  obtain ⟨a1_0, rfl, ba1_0⟩ := Open.cell_int Try.underlying3 kc1_0
  have Ba1_0 := Open.has_i64 ba1_0
  obtain ⟨a1_1, rfl, Ba1_1⟩ := Open.cell_string Try.underlying9 kc1_1
  obtain ⟨a1_2, rfl⟩ := Open.cell_bool Try.underlying4 kc1_2
  obtain ⟨a1_3, rfl, ba1_3⟩ := Open.cell_int Try.underlying3 kc1_3
  have Ba1_3 := Open.has_i64 ba1_3
  obtain ⟨a1_4, rfl, ba1_4⟩ := Open.cell_int Try.underlying3 kc1_4
  have Ba1_4 := Open.has_i64 ba1_4
  clear hA0 hval0 hsz0 hsz
  refine (WalkOrderEmpty.walk _ zs0 a1_0 a1_1 a1_2 a1_3 a1_4 Ba1_0 Ba1_1 Ba1_3 Ba1_4 W y0).mono fun e W' ⟨he, bel⟩ => ?_
  subst he
  exact ⟨_, rfl, _, _, _, [], _, [], hW', trodAll_mk1 (shut_bool Try.underlying4 _), (trodAll_cons_mk (Below.trod laidOut (by kernel_rfl) (of_decide_eq_true (by kernel_rfl)) k0 bel lt0) (trodAll_cons_mk (Below.trod laidOut (by kernel_rfl) (of_decide_eq_true (by kernel_rfl)) k1 bel lt1) trodAll_mk0)), rfl, bel.frame _, fun h => by cases h⟩
theorem over : Rows.orderEmptyRow.holds Try.pinned (OpenSpec.ofChange Rows.orderEmptySpec) :=
  OpenClaim.holds_of_wide 8 Try.f8 rfl rfl rfl rfl rfl rfl rfl ⟨rfl, rfl, rfl, rfl, rfl⟩ rfl rfl rfl rfl rfl (by kernel_rfl) Try.func8 (by kernel_rfl)
    (of_decide_eq_true (by kernel_rfl)) (by unfold Func.isWrapper; first | (rw [if_pos (by decide +kernel)]; kernel_rfl) | (rw [if_neg (by decide +kernel)]; exact ⟨rfl, rfl⟩))
    (fun os started H enc _ => lifted os started H enc)
theorem proved : Rows.OrderEmptySaid := over
#print axioms proved
end Go.Proofs.Ytecjkpjcmgohmab.orderEmpty
namespace Go.Proofs.Ytecjkpjcmgohmab
/-- The row, under a short name, for the claim. -/
theorem orderEmpty_holds : Rows.OrderEmptySaid := orderEmpty.proved
end Go.Proofs.Ytecjkpjcmgohmab
