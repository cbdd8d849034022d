/- RingApart: what is claimed is not noted. Laid by genlaws18.py. -/
import Derived.Test.YtllibgjajlgnbabRingKit
namespace Go.Proofs.Ytllibgjajlgnbab.WalkRingApart
open Go Go.RowKit Go.Proofs.Ytllibgjajlgnbab.Only Go.Proofs.Ytllibgjajlgnbab.Mem Go.Proofs.Ytllibgjajlgnbab.New Go.Proofs.Ytllibgjajlgnbab.Ref Go.Proofs.Ytllibgjajlgnbab.Ring Go.Proofs.Ytllibgjajlgnbab.RingRef Go.Proofs.Ytllibgjajlgnbab.RingDo Go.Proofs.Ytllibgjajlgnbab.RingRan Go.Proofs.Ytllibgjajlgnbab.RingKit Go.Proofs.Ytllibgjajlgnbab.Args
set_option linter.unusedVariables false
set_option linter.unusedSimpArgs false

set_option maxHeartbeats 8000000 in
set_option maxRecDepth 2000000 in
theorem walk (V : Value) (ds : List (List Value)) (n what : Int) (hn : 0 ≤ n ∧ n ≤ 65535) (hw : 0 ≤ what ∧ what ≤ 255) (W : World) (hV : StructsV ks11 W V ds) :
    Calls Try.prog 6 #[V, .int .u16 n, .int .u8 what] W fun e w' => e = .returned (.bool true) ∧ Below W.heap.size W w' := by
  have ho := ok16 hn
  go_enter Try.func6, Try.ntmps6
  go_wp2_with fail
  refine (RingAwake.awake _).mono ?_
  rintro e wA ⟨rfl, hbA⟩
  have BA := Lib.hid ((Below.refl W.heap.size W).trans (hbA.mono (Below.refl W.heap.size W).size))
  have hVA := Lib.hid ((hV.below (Below.refl W.heap.size W)).below hbA)
  clear hbA hV
  go_wp2_with fail
  refine (RingRan.ran V ds _ hVA.out).mono ?_
  rintro e w0 ⟨b, p, v, C, m, rfl, l0, hC, hm0, hm, hb0⟩
  have B0 := Lib.hid hb0
  have s0 := hb0.size
  have hl0 := Lib.hid l0.len
  clear hb0
  go_wp2_with fail
  refine (RingNew.done l0 hC (1 + n) (by omega) (by omega)).mono ?_
  rintro e w1 ⟨rfl, l1, o1⟩
  have B1 := Lib.hid (B0.out.trans (footL l0 o1 s0))
  have s1 := B1.out.size
  clear l0 o1
  go_wp2_with fail
  refine (RingNew.slot l1 hC (1 + n) (by omega) (by have := RingRan.asks_range (1 + n); omega)).mono ?_
  rintro e w2 ⟨rfl, l2, o2⟩
  have B2 := Lib.hid (B1.out.trans (footL l1 o2 s1))
  have s2 := B2.out.size
  clear l1 o2
  have hA := RingRan.asks_range (1 + n)
  have e1 : lookW C 0 (1 + n) = rdAt C (rc 0 (1 + n)) := lookW_in ho
  have hC2 := setC_range hC 0 (1 + n) (lookW C 0 (1 + n)) what (by omega)
  have q1 := look_congr (C' := setC C 0 (1 + n) (lookW C 0 (1 + n)) what) (C := C) (row := 1) (k := 1 + n) (rd_setC_other _ _ _ _ _ _ (fun _ => rc_apart _ _))
  have hl2 := (setC_length C 0 (1 + n) (lookW C 0 (1 + n)) what).trans hl0.out
  have q1 := Lib.hid q1
  clear e1
  go_wp2_with fail
  refine (RingNew.claim l2 (1 + n) (lookW C 0 (1 + n)) what (by omega) (by omega) (by omega)).mono ?_
  rintro e w3 ⟨rfl, l3, o3⟩
  have B3 := Lib.hid (B2.out.trans (footL l2 o3 s2))
  have s3 := B3.out.size
  generalize setC C 0 (1 + n) (lookW C 0 (1 + n)) what = C2 at *
  generalize setB C 0 (1 + n) (lookW C 0 (1 + n)) = bb
  clear l2 o3
  go_wp2_with fail
  refine (RingNew.done l3 hC2 (1 + n) (by omega) (by omega)).mono ?_
  rintro e w4 ⟨rfl, l4, o4⟩
  have B4 := Lib.hid (B3.out.trans (footL l3 o4 s3))
  have s4 := B4.out.size
  rw [q1.out.1, q1.out.2.1, q1.out.2.2]
  clear l3 o4
  have q4 := hC2
  go_wp2_with fail
  refine (RingHead.head l4 hC2 (by omega)).mono ?_
  rintro e w5 ⟨rfl, l5, o5⟩
  have B5 := Lib.hid (B4.out.trans (footL l4 o5 s4))
  have s5 := B5.out.size
  clear l4 o5
  have hbx := (al w5 (.cells #[.int .i64 (rdAt C2 2 / 1099511627776), .int .i64 (rdAt C2 2 / 1048576 % 1048576), .int .i64 (rdAt C2 2 % 1048576)] 41))
  have G5 := new3 w5 (.int .i64 (rdAt C2 2 / 1099511627776)) (.int .i64 (rdAt C2 2 / 1048576 % 1048576)) (.int .i64 (rdAt C2 2 % 1048576)) 41
  have l5' := RingHead.LogAt.below l5 hbx
  have B5' := Lib.hid (B5.out.trans (hbx.mono s5))
  have s5' := B5'.out.size
  have nf5 := RingPub.foot_lt' l5.mem w5.heap.size (Nat.le_refl _)
  have hk5 := lt_of_heap G5
  have hx2 := rdAt_range hC2 2
  clear l5 hbx
  unfold Words.opened
  have l5 := l5'
  have B5 := B5'
  have s5 := s5'
  clear l5' B5' s5'
  go_wp2_with fail
  refine (RingNew.slot l5 hC2 (1 + n) (by omega) (by omega)).mono ?_
  rintro e w6 ⟨rfl, l6, o6⟩
  have B6 := Lib.hid (B5.out.trans (footL l5 o6 s5))
  have s6 := B6.out.size
  have G6 := (o6.block _ hk5 nf5).trans G5
  clear l5 o6
  have e2 : lookW C 1 (1 + n) = rdAt C2 (rc 1 (1 + n)) := by rw [← q1.out.2.1, lookW_in ho]
  have hC3 := setC_range hC2 1 (1 + n) (lookW C 1 (1 + n)) what (by omega)
  have q2 := look_congr (C' := setC C2 1 (1 + n) (lookW C 1 (1 + n)) what) (C := C2) (row := 0) (k := 1 + n) (rd_setC_other _ _ _ _ _ _ (fun _ => fun e => rc_apart _ _ e.symm))
  have q3 := look_word (C := setC C2 1 (1 + n) (lookW C 1 (1 + n)) what) (row := 1) (k := 1 + n) ho (by omega) (rd_setC_same hl2 (.inr rfl) ho e2 what)
  have q5 : rdAt (setC C2 1 (1 + n) (lookW C 1 (1 + n)) what) 2 = rdAt C2 2 := rd_setC_other _ _ _ _ _ _ (fun _ => rc_head _ _ (.inr rfl))
  have hl3 := (setC_length C2 1 (1 + n) (lookW C 1 (1 + n)) what).trans hl2
  have q2 := Lib.hid q2
  have q3 := Lib.hid q3
  have q5 := Lib.hid q5
  clear e2 q4
  go_wp2_with fail
  refine (RingNew.note l6 (1 + n) (lookW C 1 (1 + n)) what (by omega) (by omega) (by omega)).mono ?_
  rintro e w7 ⟨rfl, l7, o7⟩
  have B7 := Lib.hid (B6.out.trans (footL l6 o7 s6))
  have s7 := B7.out.size
  have G7 := (o7.block _ (lt_of_heap G6) (by have h := nf5; intro hh; exact h hh)).trans G6
  generalize setC C2 1 (1 + n) (lookW C 1 (1 + n)) what = C3 at *
  generalize setB C2 1 (1 + n) (lookW C 1 (1 + n)) = bb2
  clear l6 o7
  go_wp2_with fail
  refine (RingNew.slot l7 hC3 (1 + n) (by omega) (by omega)).mono ?_
  rintro e w8 ⟨rfl, l8, o8⟩
  have B8 := Lib.hid (B7.out.trans (footL l7 o8 s7))
  have s8 := B8.out.size
  rw [q2.out.1, q2.out.2.1]
  have G8 := (o8.block _ (lt_of_heap G7) nf5).trans G7
  clear l7 o8
  go_wp2_with fail
  refine (RingNew.done l8 hC3 (1 + n) (by omega) (by omega)).mono ?_
  rintro e w9 ⟨rfl, l9, o9⟩
  have B9 := Lib.hid (B8.out.trans (footL l8 o9 s8))
  have s9 := B9.out.size
  rw [q3.out.1, q3.out.2]
  have G9 := (o9.block _ (lt_of_heap G8) nf5).trans G8
  clear l8 o9
  have L9 := Lib.hid (RingHead.LogAt.drew l9)
  have nf9 := Lib.hid nf5
  obtain ⟨⟨g0, g1, g2⟩, _, _, _⟩ := cell3 G9
  have G9 := Lib.hid G9
  have hl9 := Lib.hid l9
  clear l9 G5 G6 G7 G8 nf5
  generalize rdAt C2 2 = x at *
  generalize lookA C 1 (1 + n) = z1
  generalize lookW C 1 (1 + n) = z2
  generalize lookB C 1 (1 + n) = z3
  generalize lookA C2 0 (1 + n) = z4
  generalize lookW C2 0 (1 + n) = z5
  generalize lookB C2 0 (1 + n) = z6
  generalize lookB C3 0 (1 + n) = z7
  generalize lookW C3 1 (1 + n) = z8
  have hwr : IntKind.i64.wrap what = what := IntWalk.i64_in what (by omega)
  go_wp2_with fail
  go_region_held3 (fun w' => w'.cell? ⟨w5.heap.size, 0, none⟩ = some (.int .i64 (x / 1099511627776)) ∧ w'.cell? ⟨w5.heap.size, 1, none⟩ = some (.int .i64 (x / 1048576 % 1048576)) ∧ w'.cell? ⟨w5.heap.size, 2, none⟩ = some (.int .i64 (x % 1048576)))
    (first | go_keep | exact S5)
    (first
      | (go_at_call 20 ; refine (RingHead.head L9.out hC3 (by omega)).mono ?_ ; rintro e w10 ⟨rfl, l10, o10⟩ ; rw [q5.out] ; have S5 := (cell3 ((o10.block _ (lt_of_heap G9.out) nf9.out).trans G9.out)).1 ; unfold Words.opened ; have fin := Lib.hid (B9.out.drew.trans (footL L9.out o10 s9)) ; clear l10 o10))
  go_wp2
  go_ret
  exact ⟨rfl, BA.out.trans (fin.out.mono BA.out.size)⟩
end Go.Proofs.Ytllibgjajlgnbab.WalkRingApart
