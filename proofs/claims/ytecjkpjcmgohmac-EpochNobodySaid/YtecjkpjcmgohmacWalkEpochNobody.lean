/- EpochNobody: a pool that is nil has nothing; there is no thread beyond the last one, nor is one inside twice. -/
import Derived.Test.YtecjkpjcmgohmacEpKit
namespace Go.Proofs.Ytecjkpjcmgohmac.WalkEpochNobody
open Go Go.RowKit Go.Maps Go.Proofs.Ytecjkpjcmgohmac.Only Go.Proofs.Ytecjkpjcmgohmac.Ep Go.Proofs.Ytecjkpjcmgohmac.Args
set_option linter.unusedVariables false
set_option linter.unusedSimpArgs false

def I1 (t : Int) : List Int := enterI (newI 4) 0 t
def I2 (t : Int) : List Int := enterI (I1 t) 0 t
def I3 (t : Int) : List Int := exitI (I2 t) t
theorem yes (t : Int) (h : 0 ≤ t ∧ t < 4) : enterE (newI 4) t = 0 ∧ enterE (I1 t) t = 8 ∧ exitE (I2 t) t = 0 ∧ exitE (I3 t) t = 4 := by
  have : t = 0 ∨ t = 1 ∨ t = 2 ∨ t = 3 := by omega
  rcases this with rfl | rfl | rfl | rfl <;> decide
theorem no (t : Int) (h : ¬ (0 ≤ t ∧ t < 4)) : enterE (newI 4) t = 1 ∧ enterE (I1 t) t = 1 ∧ exitE (I2 t) t = 1 ∧ exitE (I3 t) t = 1 := by
  have h0 : thereP (newI 4) t = false := by unfold thereP; exact decide_eq_false (by simpa [newI] using h)
  have e1 : I1 t = newI 4 := by unfold I1 enterI; rw [if_neg (by rw [h0]; simp)]
  have e2 : I2 t = newI 4 := by unfold I2; rw [e1]; exact e1
  have e3 : I3 t = newI 4 := by unfold I3 exitI; rw [e2, if_neg (by rw [h0]; simp)]
  rw [e1, e2, e3]
  unfold enterE exitE
  rw [h0]
  simp

set_option maxHeartbeats 8000000 in
set_option maxRecDepth 2000000 in
theorem walk (t x : Int) (ht : -9223372036854775808 ≤ t ∧ t ≤ 9223372036854775807) (hx : 0 ≤ x ∧ x ≤ 18446744073709551615) (W : World) :
    Calls Try.prog 4 #[.int .i64 t, .int .u64 x] W fun e w' => e = .returned (.bool true) ∧ Below W.heap.size W w' := by
  go_enter Try.func4, Try.ntmps4
  go_wp2_with fail
  refine (awake W).mono ?_
  rintro e wA ⟨rfl, hbA⟩
  have sA := hbA.size
  replace hbA := Lib.hid hbA
  go_wp2_with fail
  refine (nil_retire x wA).mono ?_
  rintro e w' ⟨rfl, rfl⟩
  go_wp2_with fail
  refine (nil_enter t wA).mono ?_
  rintro e w' ⟨rfl, rfl⟩
  go_wp2_with fail
  refine (nil_exit t wA).mono ?_
  rintro e w' ⟨rfl, rfl⟩
  go_wp2_with fail
  refine (nil_advance wA).mono ?_
  rintro e w1 ⟨rfl, b1⟩
  have B1 := Lib.hid (hbA.out.trans (b1.mono sA))
  have s1 := B1.out.size
  clear b1
  go_wp2_with fail
  refine (nil_free w1).mono ?_
  rintro e w' ⟨rfl, rfl⟩
  go_wp2_with fail
  refine (nil_epoch w1).mono ?_
  rintro e w' ⟨rfl, rfl⟩
  go_wp2_with fail
  refine (nil_left w1).mono ?_
  rintro e w' ⟨rfl, rfl⟩
  go_wp2_with fail
  refine (new 4 (by omega) (by omega) w1).mono ?_
  rintro e w2 ⟨pb, mb, vin, rfl, p2, b2⟩
  have B2 := Lib.hid (B1.out.trans (b2.mono s1))
  have q2 := b2.size
  have s2 := B2.out.size
  clear b2
  go_wp2_with fail
  refine (enter p2 t).mono ?_
  rintro e w3 ⟨rfl, p3, o3⟩
  change PoolR _ _ _ _ (I1 t) _ _ _ at p3
  have c3 := poolB p2 o3 q2
  have B3 := Lib.hid (B2.out.trans (c3.mono s1))
  have q3 := Nat.le_trans q2 c3.size
  clear o3 p2 c3
  go_wp2_with fail
  refine (enter p3 t).mono ?_
  rintro e w4 ⟨rfl, p4, o4⟩
  change PoolR _ _ _ _ (I2 t) _ _ _ at p4
  have c4 := poolB p3 o4 q3
  have B4 := Lib.hid (B3.out.trans (c4.mono s1))
  have q4 := Nat.le_trans q3 c4.size
  clear o4 p3 c4
  go_wp2_with fail
  refine (exit p4 t).mono ?_
  rintro e w5 ⟨rfl, p5, o5⟩
  change PoolR _ _ _ _ (I3 t) _ _ _ at p5
  have c5 := poolB p4 o5 q4
  have B5 := Lib.hid (B4.out.trans (c5.mono s1))
  have q5 := Nat.le_trans q4 c5.size
  clear o5 p4 c5
  go_wp2_with fail
  refine (exit p5 t).mono ?_
  rintro e w6 ⟨rfl, p6, o6⟩
  have c6 := poolB p5 o6 q5
  have B6 := Lib.hid (B5.out.trans (c6.mono s1))
  clear o6 p5 c6 p6
  by_cases h : 0 ≤ t ∧ t < 4
  · obtain ⟨e1, e2, e3, e4⟩ := yes t h
    rw [e1, e2, e3, e4]
    have d1 : decide (0 ≤ t) = true := decide_eq_true h.1
    have d2 : decide (t < 4) = true := decide_eq_true h.2
    clear e1 e2 e3 e4
    go_wp2
    go_ret
    exact ⟨rfl, B6.out⟩
  · obtain ⟨e1, e2, e3, e4⟩ := no t h
    rw [e1, e2, e3, e4]
    clear e1 e2 e3 e4
    by_cases h0 : 0 ≤ t
    · have d1 : decide (0 ≤ t) = true := decide_eq_true h0
      have d2 : decide (t < 4) = false := decide_eq_false (fun q => h ⟨h0, q⟩)
      clear h
      go_wp2
      go_ret
      exact ⟨rfl, B6.out⟩
    · have d1 : decide (0 ≤ t) = false := decide_eq_false h0
      clear h
      go_wp2
      go_ret
      exact ⟨rfl, B6.out⟩
end Go.Proofs.Ytecjkpjcmgohmac.WalkEpochNobody
