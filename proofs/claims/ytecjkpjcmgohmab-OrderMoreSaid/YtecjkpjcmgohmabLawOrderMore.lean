/- OrderMore: the row, for every input. -/
import Derived.Test.YtecjkpjcmgohmabRows
import Derived.Test.YtecjkpjcmgohmabOpen
import Derived.Test.YtecjkpjcmgohmabArgs
import Derived.Test.YtecjkpjcmgohmabArgsC
import Derived.Test.YtecjkpjcmgohmabWalkOrderMore
import Derived.WalkKit
import Derived.ProofKit
import Derived.OpenShut
import Derived.ShutString
import Derived.ChangeOld
import Derived.Below
import Derived.SizedLaws
import Derived.Carry
namespace Go.Proofs.Ytecjkpjcmgohmab.orderMore
open Go.ChangeShapes Go.WideShapes Go.ChangeAt Go.RowKit
open Go.ChangeMaps (open_string shut_string)
set_option linter.unusedVariables false
theorem own : ownKnob Try.prog.godebug = none := by kernel_rfl
theorem laidOut : laidOutB Try.prog = true := by kernel_rfl
set_option maxRecDepth 100000 in
theorem lifted (os : Os) (started : os.Started) (H : Type) (enc : TypeId × Value → H) :
    ReturnsInHanded {} Try.checked os 7 .any (Rows.orderMoreSpec.pre6 enc Try.prog Try.f7 Rows.orderMoreRow.domain false) (Rows.orderMoreSpec.post enc Try.prog Try.f7 false true false false) := by
  refine returnsInHanded_of_change_sized (C := Try.checked) own started (by kernel_rfl) Try.func7
    (ChangeSpec.witness6 (enc := enc) (C := Try.checked) false ⟨#[], #[.slice none 0 0, .slice none 0 0, .int .u8 0], []⟩ 8 (by kernel_rfl) (by kernel_rfl) (by kernel_rfl) (by kernel_rfl)) ?_
  intro W base args ds gs before hval0 hW hcnd hsz0 _
  have hsz : (DataW.weightsEach Try.prog (Try.f7.params.toList ++ Rows.orderMoreSpec.plain.varTypes Try.prog) (ds ++ gs)).all (· ≤ reachBytes) = true := hsz0
  have hval : ∀ (j : Nat) t v, Try.f7.params[j]? = some t → args[j]? = some v → Value.okWide Try.prog W .any base t v := hval0
  have hW' := hW
  obtain ⟨p, q, hA0, hV, rfl, hfz, hnd⟩ := hW
  have hA : DataW.TrodAll enc Try.prog W 0 (fun _ => true) true Try.f7.params.toList args.toList ds p := hA0
  rw [Try.params7] at hA hval hsz
  obtain ⟨v0, vs0, d0, ds0, p0, q0, hargs, rfl, rfl, h0, r0⟩ := trodAll_cons hA
  obtain ⟨v1, vs1, d1, ds1, p1, q1, rfl, rfl, rfl, h1, r1⟩ := trodAll_cons r0
  obtain ⟨v2, vs2, d2, ds2, p2, q2, rfl, rfl, rfl, h2, r2⟩ := trodAll_cons r1
  obtain ⟨rfl, rfl, rfl⟩ := trodAll_nil r2
  obtain rfl : args = #[v0, v1, v2] := by cases args; simp_all
  obtain ⟨rfl, rfl⟩ := trodVars_none hV
  have k0 := h0
  have lt0 : ∀ x ∈ p0, x.block < W.heap.size := by obtain ⟨m, hm⟩ := k0; exact DataW.trod_lt m _ _ _ hm
  obtain ⟨a0, len0, cap0, rfl⟩ := okWide_slice Try.underlying22 (hval 0 22 v0 rfl rfl)
  obtain ⟨zs0, y0⟩ := Args.structsV (P := Try.prog) [.str] Try.underlying22 (by kernel_rfl) (by decide) (fun j k hk => by match j, hk with | 0, hk => cases hk; exact (.str Try.underlying9) | n + 1, hk => cases hk) rfl h0
  have k1 := h1
  have lt1 : ∀ x ∈ p1, x.block < W.heap.size := by obtain ⟨m, hm⟩ := k1; exact DataW.trod_lt m _ _ _ hm
  obtain ⟨a1, len1, cap1, rfl⟩ := okWide_slice Try.underlying23 (hval 1 23 v1 rfl rfl)
  obtain ⟨zs1, y1, yc1⟩ := Args.structsVc (P := Try.prog) [.int .i64, .str, .bool, .int .i64, .int .i64] Try.underlying23 (by kernel_rfl) (by decide) (fun j k hk => by match j, hk with | 0, hk => cases hk; exact (.field (i := 0) Try.underlying31 rfl (.int Try.underlying3) (of_decide_eq_true (by kernel_rfl)) rfl) | 1, hk => cases hk; exact (.field (i := 1) Try.underlying31 rfl (.str Try.underlying9) (of_decide_eq_true (by kernel_rfl)) rfl) | 2, hk => cases hk; exact (.field (i := 2) Try.underlying31 rfl (.bool Try.underlying4) (of_decide_eq_true (by kernel_rfl)) rfl) | 3, hk => cases hk; exact (.field (i := 3) Try.underlying31 rfl (.int Try.underlying3) (of_decide_eq_true (by kernel_rfl)) rfl) | 4, hk => cases hk; exact (.field (i := 4) Try.underlying31 rfl (.int Try.underlying3) (of_decide_eq_true (by kernel_rfl)) rfl) | n + 5, hk => cases hk) rfl h1
  have k2 := h2
  have lt2 : ∀ x ∈ p2, x.block < W.heap.size := by obtain ⟨m, hm⟩ := k2; exact DataW.trod_lt m _ _ _ hm
  obtain ⟨a2, rfl, ba2⟩ := Open.val_int Try.underlying5 (hval 2 5 v2 rfl rfl)
  have Ba2 := Open.has_u8 ba2
  clear hA0 hval0 hsz0 hsz
  refine (WalkOrderMore.walk _ zs0 _ zs1 a2 Ba2 W y0 y1 yc1).mono fun e W' ⟨he, bel⟩ => ?_
  subst he
  exact ⟨_, rfl, _, _, _, [], _, [], hW', trodAll_mk1 (shut_bool Try.underlying4 _), (trodAll_cons_mk (Below.trod laidOut (by kernel_rfl) (of_decide_eq_true (by kernel_rfl)) k0 bel lt0) (trodAll_cons_mk (Below.trod laidOut (by kernel_rfl) (of_decide_eq_true (by kernel_rfl)) k1 bel lt1) (trodAll_cons_mk (Below.trod laidOut (by kernel_rfl) (of_decide_eq_true (by kernel_rfl)) k2 bel lt2) trodAll_mk0))), rfl, bel.frame _, fun h => by cases h⟩
theorem over : Rows.orderMoreRow.holds Try.pinned (OpenSpec.ofChange Rows.orderMoreSpec) :=
  OpenClaim.holds_of_wide 7 Try.f7 rfl rfl rfl rfl rfl rfl rfl ⟨rfl, rfl, rfl, rfl, rfl⟩ rfl rfl rfl rfl rfl (by kernel_rfl) Try.func7 (by kernel_rfl)
    (of_decide_eq_true (by kernel_rfl)) (by unfold Func.isWrapper; first | (rw [if_pos (by decide +kernel)]; kernel_rfl) | (rw [if_neg (by decide +kernel)]; exact ⟨rfl, rfl⟩))
    (fun os started H enc _ => lifted os started H enc)
theorem proved : Rows.OrderMoreSaid := over
#print axioms proved
end Go.Proofs.Ytecjkpjcmgohmab.orderMore
namespace Go.Proofs.Ytecjkpjcmgohmab
/-- The row, under a short name, for the claim. -/
theorem orderMore_holds : Rows.OrderMoreSaid := orderMore.proved
end Go.Proofs.Ytecjkpjcmgohmab
