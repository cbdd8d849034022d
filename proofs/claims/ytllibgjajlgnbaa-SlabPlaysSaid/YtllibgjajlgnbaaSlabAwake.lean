/- The laws' example of a slab. -/
import Derived.Test.YtllibgjajlgnbaaSlabRan
namespace Go.Proofs.Ytllibgjajlgnbaa.SlabAwake
open Go Go.RowKit Go.Proofs.Ytllibgjajlgnbaa.Only Go.Proofs.Ytllibgjajlgnbaa.Mem Go.Proofs.Ytllibgjajlgnbaa.New Go.Proofs.Ytllibgjajlgnbaa.Ref Go.Proofs.Ytllibgjajlgnbaa.Slab Go.Proofs.Ytllibgjajlgnbaa.SlabRef Go.Proofs.Ytllibgjajlgnbaa.SlabDo Go.Proofs.Ytllibgjajlgnbaa.SlabLaw Go.Proofs.Ytllibgjajlgnbaa.SlabRan
set_option linter.unusedVariables false
set_option linter.unusedSimpArgs false

theorem slabB {B sb p : Nat} {v : Value} {C : List Int} {n : Int} {vg vt vr : Value} {s : Sl} {w w' : World} (h : SlabAt B sb p v C n vg vt vr s w) (ho : Only (SlF sb p v vg vt vr) w w') (hB : B ≤ w.heap.size) : Below B w w' := ho.toBelow B hB (fun k _ e => (h.low k e).1)

def S0 : Sl := ⟨3, 2, [0, 0], [false, false], [0, 1]⟩
def S1 : Sl := ⟨3, 2, [1, 0], [true, false], [1]⟩
def S2 : Sl := ⟨3, 2, [1, 1], [true, true], []⟩
def S3 : Sl := ⟨3, 2, [1, 1], [false, true], [0]⟩
def S4 : Sl := ⟨3, 2, [2, 1], [true, true], []⟩
theorem ok0 : S0.Ok := ⟨by decide, by decide, rfl, by decide, by decide, by decide, by decide, by decide⟩
theorem ok1 : S1.Ok := ⟨by decide, by decide, rfl, by decide, by decide, by decide, by decide, by decide⟩
theorem ok2 : S2.Ok := ⟨by decide, by decide, rfl, by decide, by decide, by decide, by decide, by decide⟩
theorem ok3 : S3.Ok := ⟨by decide, by decide, rfl, by decide, by decide, by decide, by decide, by decide⟩
theorem ok4 : S4.Ok := ⟨by decide, by decide, rfl, by decide, by decide, by decide, by decide, by decide⟩

set_option maxHeartbeats 8000000 in
set_option maxRecDepth 100000 in
theorem awake (W : World) : Calls Try.prog 23 #[] W fun e w' => e = .returned (.bool true) ∧ Below W.heap.size W w' := by
  go_enter Try.func23, Try.ntmps23
  go_wp2_with fail
  refine (New.new 3 (by omega) W).mono ?_
  rintro e w1 ⟨p, v1, rfl, m1, b1⟩
  have B1 := Lib.hid b1
  have s1 := b1.size
  clear b1
  go_wp2_with fail
  refine (Slab.new m1 s1 2 2 (by omega) (by omega) (by simp)).mono ?_
  rintro e w2 ⟨sb, v, vg, vt, vr, rfl, sl2, b2⟩
  change SlabAt _ _ _ _ _ _ _ _ _ S0 _ at sl2
  have B2 := Lib.hid (B1.out.trans b2)
  have s2 := B2.out.size
  clear b2 m1
  go_wp2_with fail
  refine (Slab.alloc sl2 ok0 (by omega) 0 [1] rfl (Nat.le_refl _)).mono ?_
  rintro e w3 ⟨rfl, vr3, n3, n3a, n3b, hr3, sl3, o3⟩
  change SlabAt _ _ _ _ _ _ _ _ _ S1 _ at sl3
  change n3 ≤ 0 + 2 at n3b
  change Only (SlF sb p v vg vt vr) w2 w3 at o3
  have B3 := Lib.hid (B2.out.trans (slabB sl2 o3 s2))
  have s3 := B3.out.size
  rw [show refOf 0 (S0.gens.getD (0 : Int).toNat 0 + 1) = 4294967297 by decide]
  clear o3 sl2
  go_wp2_with fail
  refine (Slab.alloc sl3 ok1 (by omega) 1 [] rfl (Nat.le_refl _)).mono ?_
  rintro e w4 ⟨rfl, vr4, n4, n4a, n4b, hr4, sl4, o4⟩
  change SlabAt _ _ _ _ _ _ _ _ _ S2 _ at sl4
  change n4 ≤ n3 + 2 at n4b
  have B4 := Lib.hid (B3.out.trans (slabB sl3 o4 s3))
  have s4 := B4.out.size
  rw [show refOf 1 (S1.gens.getD (1 : Int).toNat 0 + 1) = 4294967298 by decide]
  clear o4 sl3
  go_wp2_with fail
  refine (Slab.alloc_no sl4 rfl).mono ?_
  rintro e w5 ⟨rfl, rfl⟩
  go_wp2_with fail
  refine (Slab.free sl4 s4 ok2 4294967297 (by omega) (by decide)).mono ?_
  rintro e w6 ⟨rfl, vr6, sl6, o6, hr6⟩
  change SlabAt _ _ _ _ _ _ _ _ _ S3 _ at sl6
  have B6 := Lib.hid (B4.out.trans (slabB sl4 o6 s4))
  have s6 := B6.out.size
  clear o6 sl4
  go_wp2_with fail
  refine (Slab.alloc sl6 ok3 (by omega) 0 [] rfl (Nat.le_refl _)).mono ?_
  rintro e w7 ⟨rfl, vr7, n7, n7a, n7b, hr7, sl7, o7⟩
  change SlabAt _ _ _ _ _ _ _ _ _ S4 _ at sl7
  have B7 := Lib.hid (B6.out.trans (slabB sl6 o7 s6))
  have s7 := B7.out.size
  rw [show refOf 0 (S3.gens.getD (0 : Int).toNat 0 + 1) = 8589934593 by decide]
  clear o7 sl6
  go_wp2_with fail
  refine (Slab.cell sl7 ok4 8589934593 1 (by omega) (by omega)).mono ?_
  rintro e w8 ⟨rfl, b8⟩
  rw [show cellN S4 8589934593 1 = 4 by decide, show cellE S4 8589934593 1 = 0 by decide]
  have sl8 := sl7.below b8
  have B8 := Lib.hid (B7.out.trans (b8.mono s7))
  have s8 := B8.out.size
  clear b8 sl7
  go_wp2_with fail
  refine (Slab.cell sl8 ok4 4294967297 1 (by omega) (by omega)).mono ?_
  rintro e w9 ⟨rfl, b9⟩
  rw [show cellN S4 4294967297 1 = 0 by decide, show cellE S4 4294967297 1 = 4 by decide]
  have sl9 := sl8.below b9
  have B9 := Lib.hid (B8.out.trans (b9.mono s8))
  have s9 := B9.out.size
  clear b9 sl8
  go_wp2_with fail
  refine (Slab.place 8589934593 (by omega) w9).mono ?_
  rintro e w' ⟨rfl, rfl⟩
  rw [show placeOf 8589934593 = 0 by decide]
  go_wp2_with fail
  refine (Slab.gen 8589934593 (by omega) w9).mono ?_
  rintro e w' ⟨rfl, rfl⟩
  rw [show genOf 8589934593 = 2 by decide]
  go_wp2_with fail
  refine (Slab.live sl9 ok4).mono ?_
  rintro e wA ⟨rfl, bA⟩
  have BA := Lib.hid (B9.out.trans (bA.mono s9))
  rw [show ((S4.gens.length : Int) - S4.row.length) = 2 by decide]
  clear bA sl9
  go_wp2
  go_ret
  exact ⟨rfl, BA.out⟩
end Go.Proofs.Ytllibgjajlgnbaa.SlabAwake
