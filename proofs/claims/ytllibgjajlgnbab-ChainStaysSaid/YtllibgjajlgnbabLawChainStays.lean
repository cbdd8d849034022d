/- ChainStays: the row, for every input. -/
import Derived.Test.YtllibgjajlgnbabRows
import Derived.Test.YtllibgjajlgnbabOpen
import Derived.Test.YtllibgjajlgnbabArgs
import Derived.Test.YtllibgjajlgnbabWalkChainStays
import Derived.WalkKit
import Derived.ProofKit
import Derived.OpenShut
import Derived.ShutString
import Derived.ChangeOld
import Derived.Below
import Derived.SizedLaws
import Derived.Carry
namespace Go.Proofs.Ytllibgjajlgnbab.chainStays
open Go.ChangeShapes Go.WideShapes Go.ChangeAt Go.RowKit
open Go.ChangeMaps (open_string shut_string)
set_option linter.unusedVariables false
theorem own : ownKnob Try.prog.godebug = none := by kernel_rfl
theorem laidOut : laidOutB Try.prog = true := by kernel_rfl
set_option maxRecDepth 100000 in
theorem lifted (os : Os) (started : os.Started) (H : Type) (enc : TypeId × Value → H) :
    ReturnsInHanded {} Try.checked os 11 .any (Rows.chainStaysSpec.pre6 enc Try.prog Try.f11 Rows.chainStaysRow.domain false) (Rows.chainStaysSpec.post enc Try.prog Try.f11 false true false false) := by
  refine returnsInHanded_of_change_sized (C := Try.checked) own started (by kernel_rfl) Try.func11
    (ChangeSpec.witness6 (enc := enc) (C := Try.checked) false ⟨#[], #[.agg #[.slice none 0 0, .slice none 0 0], .int .i64 0, .slice none 0 0], []⟩ 8 (by kernel_rfl) (by kernel_rfl) (by kernel_rfl) (by kernel_rfl)) ?_
  intro W base args ds gs before hval0 hW hcnd hsz0 _
  have hsz : (DataW.weightsEach Try.prog (Try.f11.params.toList ++ Rows.chainStaysSpec.plain.varTypes Try.prog) (ds ++ gs)).all (· ≤ reachBytes) = true := hsz0
  have hval : ∀ (j : Nat) t v, Try.f11.params[j]? = some t → args[j]? = some v → Value.okWide Try.prog W .any base t v := hval0
  have hW' := hW
  obtain ⟨p, q, hA0, hV, rfl, hfz, hnd⟩ := hW
  have hA : DataW.TrodAll enc Try.prog W 0 (fun _ => true) true Try.f11.params.toList args.toList ds p := hA0
  rw [Try.params11] at hA hval hsz
  obtain ⟨v0, vs0, d0, ds0, p0, q0, hargs, rfl, rfl, h0, r0⟩ := trodAll_cons hA
  obtain ⟨v1, vs1, d1, ds1, p1, q1, rfl, rfl, rfl, h1, r1⟩ := trodAll_cons r0
  obtain ⟨v2, vs2, d2, ds2, p2, q2, rfl, rfl, rfl, h2, r2⟩ := trodAll_cons r1
  obtain ⟨rfl, rfl, rfl⟩ := trodAll_nil r2
  obtain rfl : args = #[v0, v1, v2] := by cases args; simp_all
  obtain ⟨rfl, rfl⟩ := trodVars_none hV
  have k0 := h0
  have lt0 : ∀ x ∈ p0, x.block < W.heap.size := by obtain ⟨m, hm⟩ := k0; exact DataW.trod_lt m _ _ _ hm
  obtain ⟨c0_0, c0_1, rfl, kc0_0, kc0_1⟩ := Open.agg2 (P := Try.prog) (.inr ⟨_, _, Try.underlying86⟩) (by kernel_rfl : Try.prog.cellTypes Try.prog.depth 86 = some [70, 70]) (by kernel_rfl) (hval 0 86 v0 rfl rfl)
  obtain ⟨a0_0a, a0_0l, a0_0c, rfl⟩ := Open.cell_slice Try.underlying70 kc0_0
  obtain ⟨a0_1a, a0_1l, a0_1c, rfl⟩ := Open.cell_slice Try.underlying70 kc0_1
  obtain ⟨⟨zs0_0, y0_0⟩, zs0_1, y0_1⟩ := Args.array2V (P := Try.prog) [.int .i64, .str, .str, .bool] Try.underlying86 (by kernel_rfl) Try.underlying70 (by kernel_rfl) (by decide) (fun j k hk => by match j, hk with | 0, hk => cases hk; exact (.field (i := 0) Try.underlying56 rfl (.int Try.underlying3) (of_decide_eq_true (by kernel_rfl)) rfl) | 1, hk => cases hk; exact (.field (i := 1) Try.underlying56 rfl (.str Try.underlying9) (of_decide_eq_true (by kernel_rfl)) rfl) | 2, hk => cases hk; exact (.field (i := 2) Try.underlying56 rfl (.str Try.underlying9) (of_decide_eq_true (by kernel_rfl)) rfl) | 3, hk => cases hk; exact (.field (i := 3) Try.underlying56 rfl (.bool Try.underlying4) (of_decide_eq_true (by kernel_rfl)) rfl) | n + 4, hk => cases hk) rfl rfl h0
  have k1 := h1
  have lt1 : ∀ x ∈ p1, x.block < W.heap.size := by obtain ⟨m, hm⟩ := k1; exact DataW.trod_lt m _ _ _ hm
  obtain ⟨a1, rfl, ba1⟩ := Open.val_int Try.underlying3 (hval 1 3 v1 rfl rfl)
  have Ba1 := Open.has_i64 ba1
  have k2 := h2
  have lt2 : ∀ x ∈ p2, x.block < W.heap.size := by obtain ⟨m, hm⟩ := k2; exact DataW.trod_lt m _ _ _ hm
  obtain ⟨a2, len2, cap2, rfl⟩ := okWide_slice Try.underlying71 (hval 2 71 v2 rfl rfl)
  obtain ⟨zs2, y2⟩ := Args.structsV (P := Try.prog) [.bool] Try.underlying71 (by kernel_rfl) (by decide) (fun j k hk => by match j, hk with | 0, hk => cases hk; exact (.bool Try.underlying4) | n + 1, hk => cases hk) rfl h2
  clear hA0 hval0 hsz0 hsz
  refine (WalkChainStays.walk _ zs0_0 _ zs0_1 a1 _ zs2 Ba1 W y0_0 y0_1 y2).mono fun e W' ⟨he, bel⟩ => ?_
  subst he
  exact ⟨_, rfl, _, _, _, [], _, [], hW', trodAll_mk1 (shut_bool Try.underlying4 _), (trodAll_cons_mk (Below.trod laidOut (by kernel_rfl) (of_decide_eq_true (by kernel_rfl)) k0 bel lt0) (trodAll_cons_mk (Below.trod laidOut (by kernel_rfl) (of_decide_eq_true (by kernel_rfl)) k1 bel lt1) (trodAll_cons_mk (Below.trod laidOut (by kernel_rfl) (of_decide_eq_true (by kernel_rfl)) k2 bel lt2) trodAll_mk0))), rfl, bel.frame _, fun h => by cases h⟩
theorem over : Rows.chainStaysRow.holds Try.pinned (OpenSpec.ofChange Rows.chainStaysSpec) :=
  OpenClaim.holds_of_wide 11 Try.f11 rfl rfl rfl rfl rfl rfl rfl ⟨rfl, rfl, rfl, rfl, rfl⟩ rfl rfl rfl rfl rfl (by kernel_rfl) Try.func11 (by kernel_rfl)
    (of_decide_eq_true (by kernel_rfl)) (by unfold Func.isWrapper; first | (rw [if_pos (by decide +kernel)]; kernel_rfl) | (rw [if_neg (by decide +kernel)]; exact ⟨rfl, rfl⟩))
    (fun os started H enc _ => lifted os started H enc)
theorem proved : Rows.ChainStaysSaid := over
#print axioms proved
end Go.Proofs.Ytllibgjajlgnbab.chainStays
namespace Go.Proofs.Ytllibgjajlgnbab
/-- The row, under a short name, for the claim. -/
theorem chainStays_holds : Rows.ChainStaysSaid := chainStays.proved
end Go.Proofs.Ytllibgjajlgnbab
