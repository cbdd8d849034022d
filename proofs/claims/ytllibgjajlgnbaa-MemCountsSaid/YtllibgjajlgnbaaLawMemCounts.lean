/- MemCounts: the row, for every input. -/
import Derived.Test.YtllibgjajlgnbaaRows
import Derived.Test.YtllibgjajlgnbaaOpen
import Derived.Test.YtllibgjajlgnbaaArgs
import Derived.Test.YtllibgjajlgnbaaWalkMemCounts
import Derived.WalkKit
import Derived.ProofKit
import Derived.OpenShut
import Derived.ShutString
import Derived.ChangeOld
import Derived.Below
import Derived.SizedLaws
import Derived.Carry
namespace Go.Proofs.Ytllibgjajlgnbaa.memCounts
open Go.ChangeShapes Go.WideShapes Go.ChangeAt Go.RowKit
open Go.ChangeMaps (open_string shut_string)
set_option linter.unusedVariables false
theorem own : ownKnob Try.prog.godebug = none := by kernel_rfl
theorem laidOut : laidOutB Try.prog = true := by kernel_rfl
set_option maxRecDepth 100000 in
theorem lifted (os : Os) (started : os.Started) (H : Type) (enc : TypeId × Value → H) :
    ReturnsInHanded {} Try.checked os 6 .any (Rows.memCountsSpec.pre6 enc Try.prog Try.f6 Rows.memCountsRow.domain false) (Rows.memCountsSpec.post enc Try.prog Try.f6 false true false false) := by
  refine returnsInHanded_of_change_sized (C := Try.checked) own started (by kernel_rfl) Try.func6
    (ChangeSpec.witness6 (enc := enc) (C := Try.checked) false ⟨#[], #[.slice none 0 0, .agg #[.int .i64 0, .int .i64 0, .int .u64 0, .int .u64 0]], []⟩ 8 (by kernel_rfl) (by kernel_rfl) (by kernel_rfl) (by kernel_rfl)) ?_
  intro W base args ds gs before hval0 hW hcnd hsz0 _
  have hsz : (DataW.weightsEach Try.prog (Try.f6.params.toList ++ Rows.memCountsSpec.plain.varTypes Try.prog) (ds ++ gs)).all (· ≤ reachBytes) = true := hsz0
  have hval : ∀ (j : Nat) t v, Try.f6.params[j]? = some t → args[j]? = some v → Value.okWide Try.prog W .any base t v := hval0
  have hW' := hW
  obtain ⟨p, q, hA0, hV, rfl, hfz, hnd⟩ := hW
  have hA : DataW.TrodAll enc Try.prog W 0 (fun _ => true) true Try.f6.params.toList args.toList ds p := hA0
  rw [Try.params6] at hA hval hsz
  obtain ⟨v0, vs0, d0, ds0, p0, q0, hargs, rfl, rfl, h0, r0⟩ := trodAll_cons hA
  obtain ⟨v1, vs1, d1, ds1, p1, q1, rfl, rfl, rfl, h1, r1⟩ := trodAll_cons r0
  obtain ⟨rfl, rfl, rfl⟩ := trodAll_nil r1
  obtain rfl : args = #[v0, v1] := by cases args; simp_all
  obtain ⟨rfl, rfl⟩ := trodVars_none hV
  have k0 := h0
  have lt0 : ∀ x ∈ p0, x.block < W.heap.size := by obtain ⟨m, hm⟩ := k0; exact DataW.trod_lt m _ _ _ hm
  obtain ⟨a0, len0, cap0, rfl⟩ := okWide_slice Try.underlying32 (hval 0 32 v0 rfl rfl)
  obtain ⟨zs0, y0⟩ := Args.structs (P := Try.prog) [.i64, .i64, .u64, .u64] Try.underlying32 Try.underlying34 (by kernel_rfl) (by decide) (by kernel_rfl) (fun j k hk => by match j, hk with | 0, hk => cases hk; exact ⟨_, rfl, rfl, Try.underlying3, by kernel_rfl⟩ | 1, hk => cases hk; exact ⟨_, rfl, rfl, Try.underlying3, by kernel_rfl⟩ | 2, hk => cases hk; exact ⟨_, rfl, rfl, Try.underlying26, by kernel_rfl⟩ | 3, hk => cases hk; exact ⟨_, rfl, rfl, Try.underlying26, by kernel_rfl⟩ | n + 4, hk => cases hk) rfl h0
  have k1 := h1
  have lt1 : ∀ x ∈ p1, x.block < W.heap.size := by obtain ⟨m, hm⟩ := k1; exact DataW.trod_lt m _ _ _ hm
  obtain ⟨c1_0, c1_1, c1_2, c1_3, rfl, kc1_0, kc1_1, kc1_2, kc1_3⟩ := Open.agg4 (P := Try.prog) (.inl ⟨_, Try.underlying34⟩) (by kernel_rfl : Try.prog.cellTypes Try.prog.depth 34 = some [3, 3, 26, 26]) (by kernel_rfl) (hval 1 34 v1 rfl rfl)
  obtain ⟨a1_0, rfl, ba1_0⟩ := Open.cell_int Try.underlying3 kc1_0
  have Ba1_0 := Open.has_i64 ba1_0
  obtain ⟨a1_1, rfl, ba1_1⟩ := Open.cell_int Try.underlying3 kc1_1
  have Ba1_1 := Open.has_i64 ba1_1
  obtain ⟨a1_2, rfl, ba1_2⟩ := Open.cell_int Try.underlying26 kc1_2
  have Ba1_2 := Open.has_u64 ba1_2
  obtain ⟨a1_3, rfl, ba1_3⟩ := Open.cell_int Try.underlying26 kc1_3
  have Ba1_3 := Open.has_u64 ba1_3
  clear hA0 hval0 hsz0 hsz
  refine (WalkMemCounts.walk _ zs0 a1_0 a1_1 a1_2 a1_3 Ba1_0 Ba1_1 Ba1_2 Ba1_3 W y0).mono fun e W' ⟨he, bel⟩ => ?_
  subst he
  exact ⟨_, rfl, _, _, _, [], _, [], hW', trodAll_mk1 (shut_bool Try.underlying4 _), (trodAll_cons_mk (Below.trod laidOut (by kernel_rfl) (of_decide_eq_true (by kernel_rfl)) k0 bel lt0) (trodAll_cons_mk (Below.trod laidOut (by kernel_rfl) (of_decide_eq_true (by kernel_rfl)) k1 bel lt1) trodAll_mk0)), rfl, bel.frame _, fun h => by cases h⟩
theorem over : Rows.memCountsRow.holds Try.pinned (OpenSpec.ofChange Rows.memCountsSpec) :=
  OpenClaim.holds_of_wide 6 Try.f6 rfl rfl rfl rfl rfl rfl rfl ⟨rfl, rfl, rfl, rfl, rfl⟩ rfl rfl rfl rfl rfl (by kernel_rfl) Try.func6 (by kernel_rfl)
    (of_decide_eq_true (by kernel_rfl)) (by unfold Func.isWrapper; first | (rw [if_pos (by decide +kernel)]; kernel_rfl) | (rw [if_neg (by decide +kernel)]; exact ⟨rfl, rfl⟩))
    (fun os started H enc _ => lifted os started H enc)
theorem proved : Rows.MemCountsSaid := over
#print axioms proved
end Go.Proofs.Ytllibgjajlgnbaa.memCounts
namespace Go.Proofs.Ytllibgjajlgnbaa
/-- The row, under a short name, for the claim. -/
theorem memCounts_holds : Rows.MemCountsSaid := memCounts.proved
end Go.Proofs.Ytllibgjajlgnbaa
