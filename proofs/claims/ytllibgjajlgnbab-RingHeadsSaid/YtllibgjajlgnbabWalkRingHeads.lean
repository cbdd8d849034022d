/- RingHeads: how it stands is turned just if it stands as was thought. Laid by genlaws18.py. -/
import Derived.Test.YtllibgjajlgnbabRingKit
namespace Go.Proofs.Ytllibgjajlgnbab.WalkRingHeads
open Go Go.RowKit Go.Proofs.Ytllibgjajlgnbab.Only Go.Proofs.Ytllibgjajlgnbab.Mem Go.Proofs.Ytllibgjajlgnbab.New Go.Proofs.Ytllibgjajlgnbab.Ref Go.Proofs.Ytllibgjajlgnbab.Ring Go.Proofs.Ytllibgjajlgnbab.RingRef Go.Proofs.Ytllibgjajlgnbab.RingDo Go.Proofs.Ytllibgjajlgnbab.RingRan Go.Proofs.Ytllibgjajlgnbab.RingKit Go.Proofs.Ytllibgjajlgnbab.Args
set_option linter.unusedVariables false
set_option linter.unusedSimpArgs false

set_option maxHeartbeats 8000000 in
set_option maxRecDepth 2000000 in
theorem walk (V : Value) (ds : List (List Value)) (a0 a1 a2 d0 d1 d2 : Int) (ha0 : -9223372036854775808 ≤ a0 ∧ a0 ≤ 9223372036854775807) (ha1 : -9223372036854775808 ≤ a1 ∧ a1 ≤ 9223372036854775807) (ha2 : -9223372036854775808 ≤ a2 ∧ a2 ≤ 9223372036854775807) (hd0 : -9223372036854775808 ≤ d0 ∧ d0 ≤ 9223372036854775807) (hd1 : -9223372036854775808 ≤ d1 ∧ d1 ≤ 9223372036854775807) (hd2 : -9223372036854775808 ≤ d2 ∧ d2 ≤ 9223372036854775807) (W : World) (hV : StructsV ks11 W V ds) :
    Calls Try.prog 5 #[V, .agg #[.int .i64 a0, .int .i64 a1, .int .i64 a2], .agg #[.int .i64 d0, .int .i64 d1, .int .i64 d2]] W fun e w' => e = .returned (.bool true) ∧ Below W.heap.size W w' := by
  have hb0 : Below W.heap.size W ((W.alloc (.cells #[.int .i64 a0, .int .i64 a1, .int .i64 a2] 41)).alloc (.cells #[.int .i64 d0, .int .i64 d1, .int .i64 d2] 41)) := ((Below.refl _ _).alloc (Nat.le_refl _) _).alloc (by simp) _
  have K1 := (heap_alloc_old (W.alloc (.cells #[.int .i64 a0, .int .i64 a1, .int .i64 a2] 41)) (.cells #[.int .i64 d0, .int .i64 d1, .int .i64 d2] 41) (by simp)).trans (new3 W (.int .i64 a0) (.int .i64 a1) (.int .i64 a2) 41)
  have K2 : ((W.alloc (.cells #[.int .i64 a0, .int .i64 a1, .int .i64 a2] 41)).alloc (.cells #[.int .i64 d0, .int .i64 d1, .int .i64 d2] 41)).heap[W.heap.size + 1]? = some (.cells #[.int .i64 d0, .int .i64 d1, .int .i64 d2] 41 (0, 0)) := by
    have := new3 (W.alloc (.cells #[.int .i64 a0, .int .i64 a1, .int .i64 a2] 41)) (.int .i64 d0) (.int .i64 d1) (.int .i64 d2) 41
    simpa using this
  have K := Lib.hid (And.intro K1 K2)
  clear K1 K2
  have hb0 := Lib.hid hb0
  go_enter Try.func5, Try.ntmps5
  go_wp2_with fail
  refine (RingAwake.awake _).mono ?_
  rintro e wA ⟨rfl, hbA⟩
  have KA := Lib.hid (And.intro ((hbA.block _ (lt_of_heap K.out.1)).trans K.out.1) ((hbA.block _ (lt_of_heap K.out.2)).trans K.out.2))
  have BA := Lib.hid (hb0.out.trans (hbA.mono hb0.out.size))
  have hVA := Lib.hid ((hV.below hb0.out).below hbA)
  clear hbA hV
  go_wp2_with fail
  refine (RingRan.ran V ds _ hVA.out).mono ?_
  rintro e w0 ⟨b, p, v, C, m, rfl, l0, hC, hm0, hm, hb0⟩
  have B0 := Lib.hid hb0
  have s0 := hb0.size
  have hl0 := Lib.hid l0.len
  clear hb0
  go_wp2_with fail
  refine (RingHead.head l0 hC (by omega)).mono ?_
  rintro e w1 ⟨rfl, l1, o1⟩
  have B1 := Lib.hid (B0.out.trans (footL l0 o1 s0))
  have s1 := B1.out.size
  clear l0 o1
  have hX := rdAt_range hC 2
  have hl := hl0.out
  have hx1 : inR C 2 = true := by rw [inR_true]; omega
  have hxt : ∀ y, rdAt (casAt C 2 (rdAt C 2) y) 2 = y := fun y => by
    have e : casAt C 2 (rdAt C 2) y = setAt C 2 y := by unfold casAt casB; rw [hx1]; simp
    rw [e]; exact rd_setAt_same _ _ _ hx1
  have hbT : casB C 2 (rdAt C 2) = true := by unfold casB; rw [hx1]; simp
  have hbF : ∀ o, o ≠ rdAt C 2 → casB C 2 o = false := fun o ho => by
    unfold casB
    rw [beq_false_of_ne (fun e : rdAt C 2 = o => ho e.symm)]
    simp
  have hcF : ∀ o y, o ≠ rdAt C 2 → casAt C 2 o y = C := fun o y ho => by unfold casAt; rw [hbF o ho]; simp
  have hyr := RingRan.head_range d0 d1 d2
  have hCn := casAt_range hC 2 (Bits.head a0 a1 a2) (Bits.head d0 d1 d2) hyr
  have Q := Lib.hid (And.intro hxt (And.intro hbT (And.intro hbF hcF)))
  clear hxt hbT hbF hcF hl hx1
  unfold Words.opened
  have G1 := new3 w1 (.int .i64 (rdAt C 2 / 1099511627776)) (.int .i64 (rdAt C 2 / 1048576 % 1048576)) (.int .i64 (rdAt C 2 % 1048576)) 41
  have l1' := Lib.hid (RingHead.LogAt.below l1 (al w1 (.cells #[.int .i64 (rdAt C 2 / 1099511627776), .int .i64 (rdAt C 2 / 1048576 % 1048576), .int .i64 (rdAt C 2 % 1048576)] 41)))
  have B1' := Lib.hid (B1.out.trans ((al w1 (.cells #[.int .i64 (rdAt C 2 / 1099511627776), .int .i64 (rdAt C 2 / 1048576 % 1048576), .int .i64 (rdAt C 2 % 1048576)] 41)).mono s1))
  have nf1 := Lib.hid (RingPub.foot_lt' l1.mem w1.heap.size (Nat.le_refl _))
  clear l1
  have k1 := lt_of_heap G1
  have k2 := s1
  have kA := lt_of_heap KA.out.1
  have kB := lt_of_heap KA.out.2
  have M1 := (B1'.out.block _ kA).trans KA.out.1
  have M2 := (B1'.out.block _ kB).trans KA.out.2
  have fin0 := Lib.hid (BA.out.trans (B1'.out.mono BA.out.size))
  obtain ⟨⟨u0, u1, u2⟩, _, _, _⟩ := cell3 M1
  obtain ⟨⟨v0, v1, v2⟩, _, _, _⟩ := cell3 M2
  have M1 := Lib.hid M1
  have M2 := Lib.hid M2
  have G1 := Lib.hid G1
  cases h0 : decide (0 ≤ a0)
  case false => (go_wp2 ; go_ret ; exact ⟨rfl, fin0.out⟩)
  cases h1 : decide (a0 < 16777216)
  case false => (go_wp2 ; go_ret ; exact ⟨rfl, fin0.out⟩)
  cases h2 : decide (0 ≤ a1)
  case false => (go_wp2 ; go_ret ; exact ⟨rfl, fin0.out⟩)
  cases h3 : decide (a1 < 1048576)
  case false => (go_wp2 ; go_ret ; exact ⟨rfl, fin0.out⟩)
  cases h4 : decide (0 ≤ a2)
  case false => (go_wp2 ; go_ret ; exact ⟨rfl, fin0.out⟩)
  cases h5 : decide (a2 < 1048576)
  case false => (go_wp2 ; go_ret ; exact ⟨rfl, fin0.out⟩)
  cases h6 : decide (0 ≤ d0)
  case false => (go_wp2 ; go_ret ; exact ⟨rfl, fin0.out⟩)
  cases h7 : decide (d0 < 16777216)
  case false => (go_wp2 ; go_ret ; exact ⟨rfl, fin0.out⟩)
  cases h8 : decide (0 ≤ d1)
  case false => (go_wp2 ; go_ret ; exact ⟨rfl, fin0.out⟩)
  cases h9 : decide (d1 < 1048576)
  case false => (go_wp2 ; go_ret ; exact ⟨rfl, fin0.out⟩)
  cases h10 : decide (0 ≤ d2)
  case false => (go_wp2 ; go_ret ; exact ⟨rfl, fin0.out⟩)
  cases h11 : decide (d2 < 1048576)
  case false => (go_wp2 ; go_ret ; exact ⟨rfl, fin0.out⟩)
  go_wp2_with fail
  replace h0 := of_decide_eq_true h0
  replace h1 := of_decide_eq_true h1
  replace h2 := of_decide_eq_true h2
  replace h3 := of_decide_eq_true h3
  replace h4 := of_decide_eq_true h4
  replace h5 := of_decide_eq_true h5
  replace h6 := of_decide_eq_true h6
  replace h7 := of_decide_eq_true h7
  replace h8 := of_decide_eq_true h8
  replace h9 := of_decide_eq_true h9
  replace h10 := of_decide_eq_true h10
  replace h11 := of_decide_eq_true h11
  refine (RingPub.publish l1'.out (by omega) a0 a1 a2 d0 d1 d2 ha0 ha1 ha2 hd0 hd1 hd2).mono ?_
  rintro e w3 ⟨rfl, l3, o3⟩
  have B3 := Lib.hid (B1'.out.trans (footL l1'.out o3 (Nat.le_trans s1 (al w1 _).size)))
  have s3 := B3.out.size
  have G3 := (o3.block _ k1 nf1.out).trans G1.out
  have k3 := lt_of_heap G3
  have M3 := (B3.out.block _ kA).trans KA.out.1
  have M4 := (B3.out.block _ kB).trans KA.out.2
  clear o3 u0 u1 u2 v0 v1 v2
  by_cases hxx : Bits.head a0 a1 a2 = rdAt C 2
  · have hxx2 := hxx
    unfold Bits.head at hxx2
    have e0 : rdAt C 2 / 1099511627776 = a0 := by omega
    have e1 : rdAt C 2 / 1048576 % 1048576 = a1 := by omega
    have e2 : rdAt C 2 % 1048576 = a2 := by omega
    have hy : Bits.head d0 d1 d2 = d0 * 1099511627776 + d1 * 1048576 + d2 := by unfold Bits.head; omega
    have f0 : Bits.head d0 d1 d2 / 1099511627776 = d0 := by omega
    have f1 : Bits.head d0 d1 d2 / 1048576 % 1048576 = d1 := by omega
    have f2 : Bits.head d0 d1 d2 % 1048576 = d2 := by omega
    rw [e0, e1, e2] at G3
    rw [hxx, Q.out.2.1]
    rw [hxx] at l3 hCn
    have hn3 := Q.out.1 (Bits.head d0 d1 d2)
    clear e0 e1 e2 hxx hxx2 hy
    have hn3 := Lib.hid hn3
    go_wp2_with fail
    refine (RingHead.head l3 hCn (by omega)).mono ?_
    rintro e w4 ⟨rfl, l4, o4⟩
    rw [hn3.out]
    unfold Words.opened
    rw [f0, f1, f2]
    have B4 := Lib.hid (B3.out.trans (footL l3 o4 s3))
    have s4 := B4.out.size
    have G4 := (o4.block _ k3 (by have h := nf1.out; exact h)).trans G3
    have M5 := (B4.out.block _ kA).trans KA.out.1
    have M6 := (B4.out.block _ kB).trans KA.out.2
    have k4 := lt_of_heap G4
    obtain ⟨⟨u0, u1, u2⟩, _, _, _⟩ := cell3 ((heap_alloc_old w4 (.cells #[.int .i64 d0, .int .i64 d1, .int .i64 d2] 41) (by omega)).trans M5)
    obtain ⟨⟨v0, v1, v2⟩, _, _, _⟩ := cell3 ((heap_alloc_old w4 (.cells #[.int .i64 d0, .int .i64 d1, .int .i64 d2] 41) (by omega)).trans M6)
    obtain ⟨⟨t0, t1, t2⟩, _, _, _⟩ := cell3 ((heap_alloc_old w4 (.cells #[.int .i64 d0, .int .i64 d1, .int .i64 d2] 41) k4).trans G4)
    obtain ⟨⟨y0, y1, y2⟩, _, _, _⟩ := cell3 (heap_alloc_new w4 (.cells #[.int .i64 d0, .int .i64 d1, .int .i64 d2] 41))
    have fin := Lib.hid (BA.out.trans (((B4.out.trans ((al w4 (.cells #[.int .i64 d0, .int .i64 d1, .int .i64 d2] 41)).mono s4))).mono BA.out.size))
    clear l3 l4 o4 G3 M3 M4 f0 f1 f2
    go_wp2
    go_ret
    exact ⟨rfl, fin.out⟩
  · have hne : ¬ (rdAt C 2 / 1099511627776 = a0 ∧ rdAt C 2 / 1048576 % 1048576 = a1 ∧ rdAt C 2 % 1048576 = a2) := by
      rintro ⟨e0, e1, e2⟩
      apply hxx
      unfold Bits.head; omega
    rw [Q.out.2.2.1 _ hxx]
    rw [Q.out.2.2.2 _ _ hxx] at l3
    go_wp2_with fail
    refine (RingHead.head l3 hC (by omega)).mono ?_
    rintro e w4 ⟨rfl, l4, o4⟩
    unfold Words.opened
    have B4 := Lib.hid (B3.out.trans (footL l3 o4 s3))
    have s4 := B4.out.size
    have G4 := (o4.block _ k3 (by have h := nf1.out; exact h)).trans G3
    have M5 := (B4.out.block _ kA).trans KA.out.1
    have M6 := (B4.out.block _ kB).trans KA.out.2
    have k4 := lt_of_heap G4
    obtain ⟨⟨u0, u1, u2⟩, _, _, _⟩ := cell3 ((heap_alloc_old w4 (.cells #[.int .i64 (rdAt C 2 / 1099511627776), .int .i64 (rdAt C 2 / 1048576 % 1048576), .int .i64 (rdAt C 2 % 1048576)] 41) (by omega)).trans M5)
    obtain ⟨⟨v0, v1, v2⟩, _, _, _⟩ := cell3 ((heap_alloc_old w4 (.cells #[.int .i64 (rdAt C 2 / 1099511627776), .int .i64 (rdAt C 2 / 1048576 % 1048576), .int .i64 (rdAt C 2 % 1048576)] 41) (by omega)).trans M6)
    obtain ⟨⟨t0, t1, t2⟩, _, _, _⟩ := cell3 ((heap_alloc_old w4 (.cells #[.int .i64 (rdAt C 2 / 1099511627776), .int .i64 (rdAt C 2 / 1048576 % 1048576), .int .i64 (rdAt C 2 % 1048576)] 41) k4).trans G4)
    obtain ⟨⟨y0, y1, y2⟩, _, _, _⟩ := cell3 (heap_alloc_new w4 (.cells #[.int .i64 (rdAt C 2 / 1099511627776), .int .i64 (rdAt C 2 / 1048576 % 1048576), .int .i64 (rdAt C 2 % 1048576)] 41))
    have fin := Lib.hid (BA.out.trans (((B4.out.trans ((al w4 (.cells #[.int .i64 (rdAt C 2 / 1099511627776), .int .i64 (rdAt C 2 / 1048576 % 1048576), .int .i64 (rdAt C 2 % 1048576)] 41)).mono s4))).mono BA.out.size))
    clear l3 l4 o4 G3 M3 M4 hxx G4 M5 M6 M1 M2 G1 hCn l1'
    generalize rdAt C 2 / 1099511627776 = X0 at *
    generalize rdAt C 2 / 1048576 % 1048576 = X1 at *
    generalize rdAt C 2 % 1048576 = X2 at *
    have hcs : (¬ X0 = a0) ∨ (X0 = a0 ∧ ¬ X1 = a1) ∨ (X0 = a0 ∧ X1 = a1 ∧ ¬ X2 = a2) := by omega
    rcases hcs with hcs | ⟨rfl, hcs2⟩ | ⟨rfl, rfl, hcs3⟩
    all_goals
      clear hne
      go_wp2
      go_ret
      exact ⟨rfl, fin.out⟩
end Go.Proofs.Ytllibgjajlgnbab.WalkRingHeads
