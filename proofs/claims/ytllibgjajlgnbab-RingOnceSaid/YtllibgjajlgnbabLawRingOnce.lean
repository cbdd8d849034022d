/- RingOnce: the row, for every input. -/
import Derived.Test.YtllibgjajlgnbabRows
import Derived.Test.YtllibgjajlgnbabOpen
import Derived.Test.YtllibgjajlgnbabArgs
import Derived.Test.YtllibgjajlgnbabWalkRingOnce
import Derived.WalkKit
import Derived.ProofKit
import Derived.OpenShut
import Derived.ShutString
import Derived.ChangeOld
import Derived.Below
import Derived.SizedLaws
import Derived.Carry
namespace Go.Proofs.Ytllibgjajlgnbab.ringOnce
open Go.ChangeShapes Go.WideShapes Go.ChangeAt Go.RowKit
open Go.ChangeMaps (open_string shut_string)
set_option linter.unusedVariables false
theorem own : ownKnob Try.prog.godebug = none := by kernel_rfl
theorem laidOut : laidOutB Try.prog = true := by kernel_rfl
set_option maxRecDepth 100000 in
theorem lifted (os : Os) (started : os.Started) (H : Type) (enc : TypeId × Value → H) :
    ReturnsInHanded {} Try.checked os 3 .any (Rows.ringOnceSpec.pre6 enc Try.prog Try.f3 Rows.ringOnceRow.domain false) (Rows.ringOnceSpec.post enc Try.prog Try.f3 false true false false) := by
  refine returnsInHanded_of_change_sized (C := Try.checked) own started (by kernel_rfl) Try.func3
    (ChangeSpec.witness6 (enc := enc) (C := Try.checked) false ⟨#[], #[.slice none 0 0, .int .u16 0, .agg #[.int .u8 0, .int .u8 0, .int .u8 0, .int .u8 0]], []⟩ 8 (by kernel_rfl) (by kernel_rfl) (by kernel_rfl) (by kernel_rfl)) ?_
  intro W base args ds gs before hval0 hW hcnd hsz0 _
  have hsz : (DataW.weightsEach Try.prog (Try.f3.params.toList ++ Rows.ringOnceSpec.plain.varTypes Try.prog) (ds ++ gs)).all (· ≤ reachBytes) = true := hsz0
  have hval : ∀ (j : Nat) t v, Try.f3.params[j]? = some t → args[j]? = some v → Value.okWide Try.prog W .any base t v := hval0
  have hW' := hW
  obtain ⟨p, q, hA0, hV, rfl, hfz, hnd⟩ := hW
  have hA : DataW.TrodAll enc Try.prog W 0 (fun _ => true) true Try.f3.params.toList args.toList ds p := hA0
  rw [Try.params3] at hA hval hsz
  obtain ⟨v0, vs0, d0, ds0, p0, q0, hargs, rfl, rfl, h0, r0⟩ := trodAll_cons hA
  obtain ⟨v1, vs1, d1, ds1, p1, q1, rfl, rfl, rfl, h1, r1⟩ := trodAll_cons r0
  obtain ⟨v2, vs2, d2, ds2, p2, q2, rfl, rfl, rfl, h2, r2⟩ := trodAll_cons r1
  obtain ⟨rfl, rfl, rfl⟩ := trodAll_nil r2
  obtain rfl : args = #[v0, v1, v2] := by cases args; simp_all
  obtain ⟨rfl, rfl⟩ := trodVars_none hV
  have k0 := h0
  have lt0 : ∀ x ∈ p0, x.block < W.heap.size := by obtain ⟨m, hm⟩ := k0; exact DataW.trod_lt m _ _ _ hm
  obtain ⟨a0, len0, cap0, rfl⟩ := okWide_slice Try.underlying22 (hval 0 22 v0 rfl rfl)
  obtain ⟨zs0, y0⟩ := Args.structsV (P := Try.prog) [.int .i64, .int .i64, .int .i64, .int .i64, .int .i64, .int .i64, .int .i64, .int .i64, .int .i64, .int .u64, .bool] Try.underlying22 (by kernel_rfl) (by decide) (fun j k hk => by match j, hk with | 0, hk => cases hk; exact (.field (i := 0) Try.underlying43 rfl (.int Try.underlying3) (of_decide_eq_true (by kernel_rfl)) rfl) | 1, hk => cases hk; exact (.field (i := 1) Try.underlying43 rfl (.int Try.underlying3) (of_decide_eq_true (by kernel_rfl)) rfl) | 2, hk => cases hk; exact (.field (i := 2) Try.underlying43 rfl (.int Try.underlying3) (of_decide_eq_true (by kernel_rfl)) rfl) | 3, hk => cases hk; exact (.field (i := 3) Try.underlying43 rfl (.field (i := 0) Try.underlying41 rfl (.int Try.underlying3) (of_decide_eq_true (by kernel_rfl)) rfl) (of_decide_eq_true (by kernel_rfl)) rfl) | 4, hk => cases hk; exact (.field (i := 3) Try.underlying43 rfl (.field (i := 1) Try.underlying41 rfl (.int Try.underlying3) (of_decide_eq_true (by kernel_rfl)) rfl) (of_decide_eq_true (by kernel_rfl)) rfl) | 5, hk => cases hk; exact (.field (i := 3) Try.underlying43 rfl (.field (i := 2) Try.underlying41 rfl (.int Try.underlying3) (of_decide_eq_true (by kernel_rfl)) rfl) (of_decide_eq_true (by kernel_rfl)) rfl) | 6, hk => cases hk; exact (.field (i := 4) Try.underlying43 rfl (.field (i := 0) Try.underlying41 rfl (.int Try.underlying3) (of_decide_eq_true (by kernel_rfl)) rfl) (of_decide_eq_true (by kernel_rfl)) rfl) | 7, hk => cases hk; exact (.field (i := 4) Try.underlying43 rfl (.field (i := 1) Try.underlying41 rfl (.int Try.underlying3) (of_decide_eq_true (by kernel_rfl)) rfl) (of_decide_eq_true (by kernel_rfl)) rfl) | 8, hk => cases hk; exact (.field (i := 4) Try.underlying43 rfl (.field (i := 2) Try.underlying41 rfl (.int Try.underlying3) (of_decide_eq_true (by kernel_rfl)) rfl) (of_decide_eq_true (by kernel_rfl)) rfl) | 9, hk => cases hk; exact (.field (i := 5) Try.underlying43 rfl (.int Try.underlying28) (of_decide_eq_true (by kernel_rfl)) rfl) | 10, hk => cases hk; exact (.field (i := 6) Try.underlying43 rfl (.bool Try.underlying4) (of_decide_eq_true (by kernel_rfl)) rfl) | n + 11, hk => cases hk) rfl h0
  have k1 := h1
  have lt1 : ∀ x ∈ p1, x.block < W.heap.size := by obtain ⟨m, hm⟩ := k1; exact DataW.trod_lt m _ _ _ hm
  obtain ⟨a1, rfl, ba1⟩ := Open.val_int Try.underlying23 (hval 1 23 v1 rfl rfl)
  have Ba1 := Open.has_u16 ba1
  have k2 := h2
  have lt2 : ∀ x ∈ p2, x.block < W.heap.size := by obtain ⟨m, hm⟩ := k2; exact DataW.trod_lt m _ _ _ hm
  obtain ⟨c2_0, c2_1, c2_2, c2_3, rfl, kc2_0, kc2_1, kc2_2, kc2_3⟩ := Open.agg4 (P := Try.prog) (.inr ⟨_, _, Try.underlying24⟩) (by kernel_rfl : Try.prog.cellTypes Try.prog.depth 24 = some [5, 5, 5, 5]) (by kernel_rfl) (hval 2 24 v2 rfl rfl)
  obtain ⟨a2_0, rfl, ba2_0⟩ := Open.cell_int Try.underlying5 kc2_0
  have Ba2_0 := Open.has_u8 ba2_0
  obtain ⟨a2_1, rfl, ba2_1⟩ := Open.cell_int Try.underlying5 kc2_1
  have Ba2_1 := Open.has_u8 ba2_1
  obtain ⟨a2_2, rfl, ba2_2⟩ := Open.cell_int Try.underlying5 kc2_2
  have Ba2_2 := Open.has_u8 ba2_2
  obtain ⟨a2_3, rfl, ba2_3⟩ := Open.cell_int Try.underlying5 kc2_3
  have Ba2_3 := Open.has_u8 ba2_3
  clear hA0 hval0 hsz0 hsz
  refine (WalkRingOnce.walk _ zs0 a1 a2_0 a2_1 a2_2 a2_3 Ba1 Ba2_0 Ba2_1 Ba2_2 Ba2_3 W y0).mono fun e W' ⟨he, bel⟩ => ?_
  subst he
  exact ⟨_, rfl, _, _, _, [], _, [], hW', trodAll_mk1 (shut_bool Try.underlying4 _), (trodAll_cons_mk (Below.trod laidOut (by kernel_rfl) (of_decide_eq_true (by kernel_rfl)) k0 bel lt0) (trodAll_cons_mk (Below.trod laidOut (by kernel_rfl) (of_decide_eq_true (by kernel_rfl)) k1 bel lt1) (trodAll_cons_mk (Below.trod laidOut (by kernel_rfl) (of_decide_eq_true (by kernel_rfl)) k2 bel lt2) trodAll_mk0))), rfl, bel.frame _, fun h => by cases h⟩
theorem over : Rows.ringOnceRow.holds Try.pinned (OpenSpec.ofChange Rows.ringOnceSpec) :=
  OpenClaim.holds_of_wide 3 Try.f3 rfl rfl rfl rfl rfl rfl rfl ⟨rfl, rfl, rfl, rfl, rfl⟩ rfl rfl rfl rfl rfl (by kernel_rfl) Try.func3 (by kernel_rfl)
    (of_decide_eq_true (by kernel_rfl)) (by unfold Func.isWrapper; first | (rw [if_pos (by decide +kernel)]; kernel_rfl) | (rw [if_neg (by decide +kernel)]; exact ⟨rfl, rfl⟩))
    (fun os started H enc _ => lifted os started H enc)
theorem proved : Rows.RingOnceSaid := over
#print axioms proved
end Go.Proofs.Ytllibgjajlgnbab.ringOnce
namespace Go.Proofs.Ytllibgjajlgnbab
/-- The row, under a short name, for the claim. -/
theorem ringOnce_holds : Rows.RingOnceSaid := ringOnce.proved
end Go.Proofs.Ytllibgjajlgnbab
