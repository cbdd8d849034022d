/- The law's example; Late. -/
import Derived.Test.YtllibgjajlgnbabRingRan
namespace Go.Proofs.Ytllibgjajlgnbab.RingAwake
open Go Go.RowKit Go.Proofs.Ytllibgjajlgnbab.Only Go.Proofs.Ytllibgjajlgnbab.Mem Go.Proofs.Ytllibgjajlgnbab.New Go.Proofs.Ytllibgjajlgnbab.Ref Go.Proofs.Ytllibgjajlgnbab.Ring Go.Proofs.Ytllibgjajlgnbab.RingRef Go.Proofs.Ytllibgjajlgnbab.RingRan
set_option linter.unusedVariables false
set_option linter.unusedSimpArgs false

set_option maxRecDepth 100000 in
theorem late (w : World) : Calls Try.prog 41 #[.int .i64 1, .int .u64 4294967304] w fun e w' => e = .returned (.bool true) ∧ w = w' := by
  go_enter Try.func41, Try.ntmps41
  go_wp2
  go_ret
  exact ⟨rfl, rfl⟩

def C0 : List Int := List.replicate 35 0
def C1 : List Int := setC C0 0 1 0 7
def C3 : List Int := casAt C1 2 0 (Bits.head 1 1 0)
theorem r0 : ∀ x ∈ C0, 0 ≤ x ∧ x ≤ 18446744073709551615 := by intro x hx; rw [List.eq_of_mem_replicate hx]; omega
theorem r1 : ∀ x ∈ C1, 0 ≤ x ∧ x ≤ 18446744073709551615 := setC_range r0 _ _ _ _ (by omega)
theorem r3 : ∀ x ∈ C3, 0 ≤ x ∧ x ≤ 18446744073709551615 := casAt_range r1 _ _ _ (head_range _ _ _)

set_option maxHeartbeats 2000000 in
set_option maxRecDepth 100000 in
theorem awake (W : World) : Calls Try.prog 13 #[] W fun e w' => e = .returned (.bool true) ∧ Below W.heap.size W w' := by
  go_enter Try.func13, Try.ntmps13
  go_wp2_with fail
  refine (New.new 2 (by omega) W).mono ?_
  rintro e w1 ⟨p, v, rfl, h1, hb1⟩
  have s1 := hb1.size
  have hb1 := Lib.hid hb1
  go_wp2_with fail
  refine (RingNew.new h1 s1).mono ?_
  rintro e w2 ⟨b, v2, rfl, l2, hb2⟩
  have B2 := Lib.hid (hb1.out.trans hb2)
  have s2 := B2.out.size
  clear h1 hb2 hb1
  go_wp2_with fail
  refine (RingNew.slot l2 r0 1 (by omega) (by omega)).mono ?_
  rintro e w3 ⟨rfl, l3, o3⟩
  have B3 := Lib.hid (B2.out.trans (footL l2 o3 s2))
  have s3 := B3.out.size
  rw [show lookA (List.replicate 35 0) 0 1 = -1 by decide, show lookW (List.replicate 35 0) 0 1 = 0 by decide, show lookB (List.replicate 35 0) 0 1 = false by decide]
  rw [show (0:Int) + asks 1 = 1 by decide] at l3
  clear l2 o3
  go_wp2_with fail
  refine (RingNew.claim l3 1 0 7 (by omega) (by omega) (by omega)).mono ?_
  rintro e w4 ⟨rfl, l4, o4⟩
  have B4 := Lib.hid (B3.out.trans (footL l3 o4 s3))
  have s4 := B4.out.size
  rw [show setB (List.replicate 35 0) 0 1 0 = true by decide]
  rw [show (1:Int) + asks 1 = 2 by decide] at l4
  change LogAt _ _ _ _ C1 _ _ at l4
  clear l3 o4
  go_wp2_with fail
  refine (RingNew.claim l4 1 0 8 (by omega) (by omega) (by omega)).mono ?_
  rintro e w5 ⟨rfl, l5, o5⟩
  have B5 := Lib.hid (B4.out.trans (footL l4 o5 s4))
  have s5 := B5.out.size
  rw [show setB C1 0 1 0 = false by decide]
  rw [show (2:Int) + asks 1 = 3 by decide, show setC C1 0 1 0 8 = C1 by decide] at l5
  clear l4 o5
  go_wp2_with fail
  refine (RingNew.slot l5 r1 1 (by omega) (by omega)).mono ?_
  rintro e w6 ⟨rfl, l6, o6⟩
  have B6 := Lib.hid (B5.out.trans (footL l5 o6 s5))
  have s6 := B6.out.size
  rw [show lookA C1 0 1 = 7 by decide, show lookB C1 0 1 = true by decide]
  rw [show (3:Int) + asks 1 = 4 by decide] at l6
  clear l5 o6
  generalize lookW C1 0 1 = lw
  go_wp2_with fail
  refine (RingPub.publish l6 (by omega) 0 0 0 1 1 0 (by omega) (by omega) (by omega) (by omega) (by omega) (by omega)).mono ?_
  rintro e w7 ⟨rfl, l7, o7⟩
  have B7 := Lib.hid (B6.out.trans (footL l6 o7 s6))
  have s7 := B7.out.size
  rw [show Bits.head 0 0 0 = 0 by decide] at l7
  rw [show Bits.head 0 0 0 = 0 by decide, show casB C1 2 0 = true by decide]
  change LogAt _ _ _ _ C3 _ _ at l7
  clear l6 o7
  go_wp2_with fail
  refine (RingHead.head l7 r3 (by omega)).mono ?_
  rintro e w8 ⟨rfl, l8, o8⟩
  have B8 := Lib.hid (B7.out.trans (footL l7 o8 s7))
  rw [show Words.opened (rdAt C3 2) = .agg #[.int .i64 1, .int .i64 1, .int .i64 0] by rw [show rdAt C3 2 = 1099512676352 by decide]; rfl]
  clear l7 o8 l8
  go_wp2_with fail
  refine (late w8).mono ?_
  rintro e w9 ⟨rfl, rfl⟩
  go_wp2
  go_ret
  exact ⟨rfl, B8.out⟩
end Go.Proofs.Ytllibgjajlgnbab.RingAwake
