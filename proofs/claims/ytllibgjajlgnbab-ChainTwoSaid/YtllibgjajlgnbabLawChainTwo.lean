/- ChainTwo: the row, for every input. -/
import Derived.Test.YtllibgjajlgnbabRows
import Derived.Test.YtllibgjajlgnbabOpen
import Derived.Test.YtllibgjajlgnbabArgs
import Derived.Test.YtllibgjajlgnbabWalkChainTwo
import Derived.WalkKit
import Derived.ProofKit
import Derived.OpenShut
import Derived.ShutString
import Derived.ChangeOld
import Derived.Below
import Derived.SizedLaws
import Derived.Carry
namespace Go.Proofs.Ytllibgjajlgnbab.chainTwo
open Go.ChangeShapes Go.WideShapes Go.ChangeAt Go.RowKit
open Go.ChangeMaps (open_string shut_string)
set_option linter.unusedVariables false
theorem own : ownKnob Try.prog.godebug = none := by kernel_rfl
theorem laidOut : laidOutB Try.prog = true := by kernel_rfl
set_option maxRecDepth 100000 in
theorem lifted (os : Os) (started : os.Started) (H : Type) (enc : TypeId × Value → H) :
    ReturnsInHanded {} Try.checked os 12 .any (Rows.chainTwoSpec.pre6 enc Try.prog Try.f12 Rows.chainTwoRow.domain false) (Rows.chainTwoSpec.post enc Try.prog Try.f12 false true false false) := by
  refine returnsInHanded_of_change_sized (C := Try.checked) own started (by kernel_rfl) Try.func12
    (ChangeSpec.witness6 (enc := enc) (C := Try.checked) false ⟨#[], #[.slice none 0 0, .agg #[.string ByteArray.empty, .string ByteArray.empty], .slice none 0 0], []⟩ 8 (by kernel_rfl) (by kernel_rfl) (by kernel_rfl) (by kernel_rfl)) ?_
  intro W base args ds gs before hval0 hW hcnd hsz0 _
  have hsz : (DataW.weightsEach Try.prog (Try.f12.params.toList ++ Rows.chainTwoSpec.plain.varTypes Try.prog) (ds ++ gs)).all (· ≤ reachBytes) = true := hsz0
  have hval : ∀ (j : Nat) t v, Try.f12.params[j]? = some t → args[j]? = some v → Value.okWide Try.prog W .any base t v := hval0
  have hW' := hW
  obtain ⟨p, q, hA0, hV, rfl, hfz, hnd⟩ := hW
  have hA : DataW.TrodAll enc Try.prog W 0 (fun _ => true) true Try.f12.params.toList args.toList ds p := hA0
  rw [Try.params12] at hA hval hsz
  obtain ⟨v0, vs0, d0, ds0, p0, q0, hargs, rfl, rfl, h0, r0⟩ := trodAll_cons hA
  obtain ⟨v1, vs1, d1, ds1, p1, q1, rfl, rfl, rfl, h1, r1⟩ := trodAll_cons r0
  obtain ⟨v2, vs2, d2, ds2, p2, q2, rfl, rfl, rfl, h2, r2⟩ := trodAll_cons r1
  obtain ⟨rfl, rfl, rfl⟩ := trodAll_nil r2
  obtain rfl : args = #[v0, v1, v2] := by cases args; simp_all
  obtain ⟨rfl, rfl⟩ := trodVars_none hV
  have k0 := h0
  have lt0 : ∀ x ∈ p0, x.block < W.heap.size := by obtain ⟨m, hm⟩ := k0; exact DataW.trod_lt m _ _ _ hm
  obtain ⟨a0, len0, cap0, rfl⟩ := okWide_slice Try.underlying70 (hval 0 70 v0 rfl rfl)
  obtain ⟨zs0, y0⟩ := Args.structsV (P := Try.prog) [.int .i64, .str, .str, .bool] Try.underlying70 (by kernel_rfl) (by decide) (fun j k hk => by match j, hk with | 0, hk => cases hk; exact (.field (i := 0) Try.underlying56 rfl (.int Try.underlying3) (of_decide_eq_true (by kernel_rfl)) rfl) | 1, hk => cases hk; exact (.field (i := 1) Try.underlying56 rfl (.str Try.underlying9) (of_decide_eq_true (by kernel_rfl)) rfl) | 2, hk => cases hk; exact (.field (i := 2) Try.underlying56 rfl (.str Try.underlying9) (of_decide_eq_true (by kernel_rfl)) rfl) | 3, hk => cases hk; exact (.field (i := 3) Try.underlying56 rfl (.bool Try.underlying4) (of_decide_eq_true (by kernel_rfl)) rfl) | n + 4, hk => cases hk) rfl h0
  have k1 := h1
  have lt1 : ∀ x ∈ p1, x.block < W.heap.size := by obtain ⟨m, hm⟩ := k1; exact DataW.trod_lt m _ _ _ hm
  obtain ⟨c1_0, c1_1, rfl, kc1_0, kc1_1⟩ := Open.agg2 (P := Try.prog) (.inr ⟨_, _, Try.underlying88⟩) (by kernel_rfl : Try.prog.cellTypes Try.prog.depth 88 = some [9, 9]) (by kernel_rfl) (hval 1 88 v1 rfl rfl)
  obtain ⟨a1_0, rfl, Ba1_0⟩ := Open.cell_string Try.underlying9 kc1_0
  obtain ⟨a1_1, rfl, Ba1_1⟩ := Open.cell_string Try.underlying9 kc1_1
  have k2 := h2
  have lt2 : ∀ x ∈ p2, x.block < W.heap.size := by obtain ⟨m, hm⟩ := k2; exact DataW.trod_lt m _ _ _ hm
  obtain ⟨a2, len2, cap2, rfl⟩ := okWide_slice Try.underlying71 (hval 2 71 v2 rfl rfl)
  obtain ⟨zs2, y2⟩ := Args.structsV (P := Try.prog) [.bool] Try.underlying71 (by kernel_rfl) (by decide) (fun j k hk => by match j, hk with | 0, hk => cases hk; exact (.bool Try.underlying4) | n + 1, hk => cases hk) rfl h2
  clear hA0 hval0 hsz0 hsz
  refine (WalkChainTwo.walk _ zs0 a1_0 a1_1 _ zs2 Ba1_0 Ba1_1 W y0 y2).mono fun e W' ⟨he, bel⟩ => ?_
  subst he
  exact ⟨_, rfl, _, _, _, [], _, [], hW', trodAll_mk1 (shut_bool Try.underlying4 _), (trodAll_cons_mk (Below.trod laidOut (by kernel_rfl) (of_decide_eq_true (by kernel_rfl)) k0 bel lt0) (trodAll_cons_mk (Below.trod laidOut (by kernel_rfl) (of_decide_eq_true (by kernel_rfl)) k1 bel lt1) (trodAll_cons_mk (Below.trod laidOut (by kernel_rfl) (of_decide_eq_true (by kernel_rfl)) k2 bel lt2) trodAll_mk0))), rfl, bel.frame _, fun h => by cases h⟩
theorem over : Rows.chainTwoRow.holds Try.pinned (OpenSpec.ofChange Rows.chainTwoSpec) :=
  OpenClaim.holds_of_wide 12 Try.f12 rfl rfl rfl rfl rfl rfl rfl ⟨rfl, rfl, rfl, rfl, rfl⟩ rfl rfl rfl rfl rfl (by kernel_rfl) Try.func12 (by kernel_rfl)
    (of_decide_eq_true (by kernel_rfl)) (by unfold Func.isWrapper; first | (rw [if_pos (by decide +kernel)]; kernel_rfl) | (rw [if_neg (by decide +kernel)]; exact ⟨rfl, rfl⟩))
    (fun os started H enc _ => lifted os started H enc)
theorem proved : Rows.ChainTwoSaid := over
#print axioms proved
end Go.Proofs.Ytllibgjajlgnbab.chainTwo
namespace Go.Proofs.Ytllibgjajlgnbab
/-- The row, under a short name, for the claim. -/
theorem chainTwo_holds : Rows.ChainTwoSaid := chainTwo.proved
end Go.Proofs.Ytllibgjajlgnbab
