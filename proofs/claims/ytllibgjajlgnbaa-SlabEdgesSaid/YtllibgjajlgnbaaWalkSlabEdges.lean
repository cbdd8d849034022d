/- SlabEdges: of any number the place, and the generation; of nobody's slab nothing. -/
import Derived.Test.YtllibgjajlgnbaaSlabKit
namespace Go.Proofs.Ytllibgjajlgnbaa.WalkSlabEdges
open Go Go.RowKit Go.Proofs.Ytllibgjajlgnbaa.Only Go.Proofs.Ytllibgjajlgnbaa.Mem Go.Proofs.Ytllibgjajlgnbaa.New Go.Proofs.Ytllibgjajlgnbaa.Ref Go.Proofs.Ytllibgjajlgnbaa.Slab Go.Proofs.Ytllibgjajlgnbaa.SlabRef Go.Proofs.Ytllibgjajlgnbaa.SlabDo Go.Proofs.Ytllibgjajlgnbaa.SlabLaw Go.Proofs.Ytllibgjajlgnbaa.SlabRan Go.Proofs.Ytllibgjajlgnbaa.SlabKit Go.Proofs.Ytllibgjajlgnbaa.Args
set_option linter.unusedVariables false
set_option linter.unusedSimpArgs false

set_option maxHeartbeats 8000000 in
set_option maxRecDepth 2000000 in
theorem walk (r words most : Int) (hr : 0 ≤ r ∧ r ≤ 18446744073709551615) (hw : -9223372036854775808 ≤ words ∧ words ≤ 9223372036854775807) (hm : -9223372036854775808 ≤ most ∧ most ≤ 9223372036854775807) (W : World) :
    Calls Try.prog 10 #[.int .u64 r, .int .i64 words, .int .i64 most] W fun e w' => e = .returned (.bool true) ∧ Below W.heap.size W w' := by
  go_enter Try.func10, Try.ntmps10
  go_wp2_with fail
  refine (SlabAwake.awake _).mono ?_
  rintro e wA ⟨rfl, hbA⟩
  replace hbA := Lib.hid hbA
  go_wp2_with fail
  refine (Slab.nil_alloc wA).mono ?_
  rintro e w' ⟨rfl, rfl⟩
  go_wp2_with fail
  refine (Slab.nil_cell r 0 wA).mono ?_
  rintro e w' ⟨rfl, rfl⟩
  go_wp2_with fail
  refine (SlabDo.begun 3 4 (by omega) (by omega) (by omega) wA).mono ?_
  rintro e w2 ⟨sb, p, v, vg, vt, vr, xC, xG, xT, xR, rfl, b2, B2⟩
  obtain ⟨AC, cC, e1, -⟩ := own_any b2.x.c.own
  obtain ⟨AG, cG, e2, -⟩ := own_any b2.x.g
  obtain ⟨AT, cT, e3, -⟩ := own_any b2.x.t
  obtain ⟨AR, cR, e4, -⟩ := own_any b2.x.r
  subst e1 e2 e3 e4
  have I : SlabLaw.Inv 3 3 4 0 ⟨List.replicate (3 + 3 * 4) 0, newS 3 3 4 4, []⟩ := Inv.new 3 3 4
  have ok := I.ok bd4 (by omega) (by omega)
  have C1 := fun (X : Obj) => Slab.cell (b2.sl.alloc X) ok 0 0 (by omega) (by omega)
  change ∀ X, Calls _ _ _ _ _ at C1
  have e0 : cellE (newS 3 3 4 4) 0 0 = 4 := by decide
  have e1 : cellN (newS 3 3 4 4) 0 0 = 0 := by decide
  obtain ⟨S, hS⟩ : ∃ S, newS 3 3 4 4 = S := ⟨_, rfl⟩
  obtain ⟨D, hD⟩ : ∃ D, List.replicate (3 + 3 * 4) (0 : Int) = D := ⟨_, rfl⟩
  have s2 := B2.size
  change ∀ X, Calls Try.prog _ _ _ (fun e w' => e = .returned (.tuple #[.int .i64 (cellN (newS 3 3 4 4) 0 0), .int .i64 (cellE (newS 3 3 4 4) 0 0)]) ∧ _) at C1
  rw [e0, e1] at C1
  change BothAt _ _ _ _ _ _ _ _ _ _ _ _ _ _ (newS 3 3 4 4) _ _ at b2
  rw [hS, hD]
  clear e0 e1 I ok b2
  replace C1 := Lib.hid C1
  replace B2 := Lib.hid B2
  replace hS := Lib.hid hS
  replace hD := Lib.hid hD
  unfold bv
  go_wp2_with fail
  refine (C1.out _).mono ?_
  rintro e w4 ⟨rfl, b4⟩
  have B4 := Lib.hid (hbA.out.trans (((B2.out.alloc s2 _).trans (b4.mono (by simp; omega))).mono hbA.out.size))
  have s4 := B4.out.size
  clear b4 C1 B2 s2
  go_wp2_with fail
  refine (New.new 0 (by omega) w4).mono ?_
  rintro e w5 ⟨p5, v5, rfl, -, b5⟩
  have B5 := Lib.hid (B4.out.trans (b5.mono s4))
  have s5 := B5.out.size
  clear b5
  go_wp2_with fail
  refine (Slab.new_bad _ (.inr ⟨_, rfl⟩) 65537 1 (by omega) (by omega) (.inr (.inr (by omega))) w5).mono ?_
  rintro e w' ⟨rfl, rfl⟩
  go_wp2_with fail
  refine (New.new 0 (by omega) w5).mono ?_
  rintro e w6 ⟨p6, v6, rfl, -, b6⟩
  have B6 := Lib.hid (B5.out.trans (b6.mono s5))
  have s6 := B6.out.size
  clear b6
  go_wp2_with fail
  refine (Slab.new_bad _ (.inr ⟨_, rfl⟩) 1 65537 (by omega) (by omega) (.inr (.inr (by omega))) w6).mono ?_
  rintro e w' ⟨rfl, rfl⟩
  go_wp2_with fail
  refine (Slab.new_nil 1 1 w6).mono ?_
  rintro e w' ⟨rfl, rfl⟩
  go_wp2_with fail
  refine (New.new 0 (by omega) w6).mono ?_
  rintro e w7 ⟨p7, v7, rfl, -, b7⟩
  have B7 := Lib.hid (B6.out.trans (b7.mono s6))
  clear b7
  go_wp2_with fail
  refine (Slab.new_bad _ (.inr ⟨_, rfl⟩) 0 1 (by omega) (by omega) (.inl (by omega)) w7).mono ?_
  rintro e w' ⟨rfl, rfl⟩
  go_wp2_with fail
  refine (Slab.nil_free 1 w7).mono ?_
  rintro e w' ⟨rfl, rfl⟩
  go_wp2_with fail
  refine (Slab.nil_live w7).mono ?_
  rintro e w' ⟨rfl, rfl⟩
  go_wp2_with fail
  refine (Slab.place r hr w7).mono ?_
  rintro e w' ⟨rfl, rfl⟩
  go_wp2_with fail
  refine (rplace r hr w7).mono ?_
  rintro e w' ⟨rfl, rfl⟩
  generalize placeOf r = pl at *
  go_wp2_with fail
  refine (Slab.gen r hr w7).mono ?_
  rintro e w' ⟨rfl, rfl⟩
  go_wp2_with fail
  refine (rgen r hr w7).mono ?_
  rintro e w' ⟨rfl, rfl⟩
  generalize genOf r = gn at *
  go_wp2
  go_ret
  exact ⟨rfl, B7.out⟩
end Go.Proofs.Ytllibgjajlgnbaa.WalkSlabEdges
