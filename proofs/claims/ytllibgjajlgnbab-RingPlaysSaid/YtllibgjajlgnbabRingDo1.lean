/- RingPlays' step: Head, of both. Laid by gendoring.py. -/
import Derived.Test.YtllibgjajlgnbabRingDo
namespace Go.Proofs.Ytllibgjajlgnbab.RingDo
open Go Go.RowKit Go.Proofs.Ytllibgjajlgnbab.Only Go.Proofs.Ytllibgjajlgnbab.Mem Go.Proofs.Ytllibgjajlgnbab.New Go.Proofs.Ytllibgjajlgnbab.Ref Go.Proofs.Ytllibgjajlgnbab.Ring Go.Proofs.Ytllibgjajlgnbab.RingRef
set_option linter.unusedVariables false
set_option linter.unusedSimpArgs false

set_option maxHeartbeats 8000000 in
set_option maxRecDepth 100000 in
theorem do1 {B b p : Nat} {v : Value} {C : List Int} {n : Int} {w : World} (h : LogAt B b p v C n w) (hC : ∀ x ∈ C, 0 ≤ x ∧ x ≤ 18446744073709551615) (hn : 0 ≤ n ∧ n < 4611686018427387904) (s : Value) (D : List Int) (hr : RefAt B s D w) (hl : D.length = 35) (hD : ∀ x ∈ D, 0 ≤ x ∧ x ≤ 18446744073709551615) (hap : ∀ j, s.ownBlock = some j → ¬ Foot p v j) (hB : B ≤ w.heap.size) (cnt : Int) (hc : 0 ≤ cnt ∧ cnt < 4611686018427387904) (N wh a0 a1 a2 d0 d1 d2 raw : Int) (odd : Bool) (what : Int) (hwhat : (wh < 0 ∧ what = 0) ∨ (0 ≤ wh ∧ what = wh % 1073741824)) (hN : -9223372036854775808 ≤ N ∧ N ≤ 9223372036854775807) (hwh : -9223372036854775808 ≤ wh ∧ wh ≤ 9223372036854775807) (ha0 : -9223372036854775808 ≤ a0 ∧ a0 ≤ 9223372036854775807) (ha1 : -9223372036854775808 ≤ a1 ∧ a1 ≤ 9223372036854775807) (ha2 : -9223372036854775808 ≤ a2 ∧ a2 ≤ 9223372036854775807) (hd0 : -9223372036854775808 ≤ d0 ∧ d0 ≤ 9223372036854775807) (hd1 : -9223372036854775808 ≤ d1 ∧ d1 ≤ 9223372036854775807) (hd2 : -9223372036854775808 ≤ d2 ∧ d2 ≤ 9223372036854775807) :
    Calls Try.prog 19 #[.pointer (some ⟨b, 0, none⟩), .agg #[s, .int .i64 cnt, .int .i64 2], .agg #[.int .i64 1, .int .i64 N, .int .i64 wh, .int .i64 a0, .int .i64 a1, .int .i64 a2, .int .i64 d0, .int .i64 d1, .int .i64 d2, .int .u64 raw, .bool odd]] w (Did B b p v C D n cnt 1 N what a0 a1 a2 d0 d1 d2 raw odd w) := by
  obtain ⟨A, cap, rfl, hcap⟩ := own_any hr.own
  have hlow := RingPub.foot_lt' h.mem
  have hrl := ref_lt hr
  have hbw := lt_of_heap h.blk
  have hb2 : Below w.heap.size w (((w.alloc (.cells #[.slice A D.length cap, .int .i64 cnt, .int .i64 2] 37)).alloc (.cells #[.int .i64 1, .int .i64 N, .int .i64 wh, .int .i64 a0, .int .i64 a1, .int .i64 a2, .int .i64 d0, .int .i64 d1, .int .i64 d2, .int .u64 raw, .bool odd] 43)).alloc (.cells #[.slice none 0 0, .int .i64 0, .int .i64 0] 37)) := (((Below.refl _ _).alloc (Nat.le_refl _) _).alloc (by simp) _).alloc (by simp <;> omega) _
  have F := Fd.start w (.slice A D.length cap) (.int .i64 cnt) (.int .i64 2) 1 N wh a0 a1 a2 d0 d1 d2 raw odd
  have L2 := RingHead.LogAt.below h hb2
  have R2 := hr.below hb2
  have hw2 : 0 ≤ what ∧ what ≤ 1073741824 := by omega
  obtain ⟨⟨x0, x1, x2⟩, _, _, _⟩ := cell3 F.arg
  obtain ⟨g0, g1, g2, g3, g4, g5, g6, g7, g8, g9, g10⟩ := cell11 F.deed
  have L2 := Lib.hid L2
  have R2 := Lib.hid R2
  have F := Lib.hid F
  have hb2 := Lib.hid hb2
  have hlow := Lib.hid hlow
  have hrl := Lib.hid hrl
  have hap := Lib.hid hap
  replace hl := Lib.hid hl
  clear h hr
  rcases hwhat with ⟨h0, rfl⟩ | ⟨h0, rfl⟩
  all_goals
    have b0 : (wh < 0) ↔ (wh < 0) := Iff.rfl
    go_enter Try.func19, Try.ntmps19
    go_wp2_with fail
    generalize (((w.alloc (.cells #[.slice A D.length cap, .int .i64 cnt, .int .i64 2] 37)).alloc (.cells #[.int .i64 1, .int .i64 N, .int .i64 wh, .int .i64 a0, .int .i64 a1, .int .i64 a2, .int .i64 d0, .int .i64 d1, .int .i64 d2, .int .u64 raw, .bool odd] 43)).alloc (.cells #[.slice none 0 0, .int .i64 0, .int .i64 0] 37)) = w2 at *
    refine (RingHead.head L2.out hC hn).mono ?_
    rintro e w3 ⟨rfl, h3, ho3⟩
    have F3 := F.out.next ho3 hlow.out
    have R3 := R2.out.keep ho3 (fun j hj => hap.out j hj)
    have hO3 := Lib.hid ((ofBelow (S := Foot p v) hb2.out).trans ho3 (fun _ _ x => x))
    have s3 := hO3.out.size
    have hx := rdAt_range hC 2
    have hy := rdAt_range hD 2
    generalize hrx : rdAt C 2 = x at *
    unfold Words.opened
    have q3b := lt_of_heap F3.res
    have G3 := new3 w3 (.int .i64 (x / 1099511627776)) (.int .i64 (x / 1048576 % 1048576)) (.int .i64 (x % 1048576)) 41
    have F3 := F3.next (ofBelow (S := fun _ => False) (al w3 (.cells #[.int .i64 (x / 1099511627776), .int .i64 (x / 1048576 % 1048576), .int .i64 (x % 1048576)] 41))) (fun _ _ x => x)
    have R3 := R3.below (al w3 (.cells #[.int .i64 (x / 1099511627776), .int .i64 (x / 1048576 % 1048576), .int .i64 (x % 1048576)] 41))
    have b34 := Lib.hid (al w3 (.cells #[.int .i64 (x / 1099511627776), .int .i64 (x / 1048576 % 1048576), .int .i64 (x % 1048576)] 41))
    obtain ⟨⟨x0, x1, x2⟩, _, _, _⟩ := cell3 F3.arg
    obtain ⟨g0, g1, g2, g3, g4, g5, g6, g7, g8, g9, g10⟩ := cell11 F3.deed
    have h3 := Lib.hid h3
    have R3 := Lib.hid R3
    have q3 := lt_of_heap F3.res
    have F3 := Lib.hid F3
    have G3 := Lib.hid G3
    clear ho3
    go_wp2_with fail
    refine (RingRef.head _ D _ B R3.out hl.out hD (Nat.le_trans hB (Nat.le_trans s3 b34.out.size)) cnt hc).mono ?_
    rintro e w5 ⟨s', rfl, h5⟩
    obtain ⟨A5, cap5, hs5, hcap5⟩ := own_any h5.ref.own
    subst hs5
    generalize hry : rdAt D 2 = y at *
    unfold Words.opened
    have F5 := F3.out.next (ofBelow (S := fun _ => False) h5.bel) (fun _ _ x => x)
    have G5 := (h5.bel.block _ (lt_of_heap G3.out)).trans G3.out
    obtain ⟨⟨s0, s1, s2⟩, q0, q1, q2⟩ := cell3 F5.res
    obtain ⟨⟨t0, t1, t2⟩, _, _, _⟩ := cell3 G5
    have hf5 := lt_of_heap F5.res
    have hf8 := lt_of_heap G5
    have hf6 : ¬ w.heap.size + 1 + 1 = w5.heap.size := by omega
    have hf7 : ¬ w5.heap.size = w.heap.size + 1 + 1 := by omega
    have h5 := Lib.hid h5
    go_wp2_with fail
    have K0 : Below w5.heap.size w5 ((w5.alloc (.cells #[(.slice A5 D.length cap5), .int .i64 (cnt + 1), .int .i64 2] 37)).alloc (.cells #[.int .i64 (y / 1099511627776), .int .i64 (y / 1048576 % 1048576), .int .i64 (y % 1048576)] 41)) := ((Below.refl _ _).alloc (Nat.le_refl _) _).alloc (by simp) _
    have K1 := (heap_alloc_old (w5.alloc (.cells #[(.slice A5 D.length cap5), .int .i64 (cnt + 1), .int .i64 2] 37)) (.cells #[.int .i64 (y / 1099511627776), .int .i64 (y / 1048576 % 1048576), .int .i64 (y % 1048576)] 41) (by simp)).trans (new3 w5 (.slice A5 D.length cap5) (.int .i64 (cnt + 1)) (.int .i64 2) 37)
    have K2 : ((w5.alloc (.cells #[(.slice A5 D.length cap5), .int .i64 (cnt + 1), .int .i64 2] 37)).alloc (.cells #[.int .i64 (y / 1099511627776), .int .i64 (y / 1048576 % 1048576), .int .i64 (y % 1048576)] 41)).heap[w5.heap.size + 1]? = some (.cells #[.int .i64 (y / 1099511627776), .int .i64 (y / 1048576 % 1048576), .int .i64 (y % 1048576)] 41 (0, 0)) := by
      have := new3 (w5.alloc (.cells #[(.slice A5 D.length cap5), .int .i64 (cnt + 1), .int .i64 2] 37)) (.int .i64 (y / 1099511627776)) (.int .i64 (y / 1048576 % 1048576)) (.int .i64 (y % 1048576)) 41
      simpa using this
    have K3 := (K0.block _ hf8).trans G5
    have K4 := (K0.block _ hf5).trans F5.res
    have K0 := Lib.hid K0
    generalize ((w5.alloc (.cells #[(.slice A5 D.length cap5), .int .i64 (cnt + 1), .int .i64 2] 37)).alloc (.cells #[.int .i64 (y / 1099511627776), .int .i64 (y / 1048576 % 1048576), .int .i64 (y % 1048576)] 41)) = w6 at *
    obtain ⟨⟨k10, k11, k12⟩, _, _, _⟩ := cell3 K1
    obtain ⟨⟨k20, k21, k22⟩, _, _, _⟩ := cell3 K2
    obtain ⟨⟨k30, k31, k32⟩, _, _, _⟩ := cell3 K3
    obtain ⟨⟨k40, k41, k42⟩, k43, k44, k45⟩ := cell3 K4
    have m1 : ¬ w.heap.size + 1 = w5.heap.size := by omega
    have m2 : ¬ w5.heap.size = w.heap.size + 1 := by omega
    have m3 : ¬ w.heap.size + 1 + 1 = w3.heap.size := by omega
    have m4 : ¬ w3.heap.size = w.heap.size + 1 + 1 := by omega
    have K4 := Lib.hid K4
    clear s0 s1 s2 q0 q1 q2 t0 t1 t2
    have fin := fun (what : Int) (wf : World) (ok : Bool) (hok : C = D → ok = true) (o6 : Only (fun j => j = w.heap.size + 1 + 1) w5 wf) => finish (k := 1) (N := N) (what := what) (a0 := a0) (a1 := a1) (a2 := a2) (d0 := d0) (d1 := d1) (d2 := d2) (raw := raw) (odd := odd) (n := n) (cnt := cnt) (D := D) (C' := C) (D' := D) (a := 1) (by simp [doC]) (by simp [doC]) (by simp [doA]) hbw hlow.out hrl.out hap.out h3.out hO3.out b34.out h5.out (by omega) q3 hok o6
    have fin := Lib.hid fin
    have hcs : (x / 1099511627776 = y / 1099511627776 ∧ x / 1048576 % 1048576 = y / 1048576 % 1048576 ∧ x % 1048576 = y % 1048576) ∨ (¬ x / 1099511627776 = y / 1099511627776) ∨ (x / 1099511627776 = y / 1099511627776 ∧ ¬ x / 1048576 % 1048576 = y / 1048576 % 1048576) ∨ (x / 1099511627776 = y / 1099511627776 ∧ x / 1048576 % 1048576 = y / 1048576 % 1048576 ∧ ¬ x % 1048576 = y % 1048576) := by omega
    rcases hcs with ⟨hcs, hcs2, hcs3⟩ | hcs | ⟨hcs, hcs2⟩ | ⟨hcs, hcs2, hcs3⟩
    all_goals
      go_region_held3 (fun w' => w'.cell? ⟨w5.heap.size, 0, none⟩ = some (.slice A5 D.length cap5) ∧ w'.cell? ⟨w5.heap.size, 1, none⟩ = some (.int .i64 (cnt + 1)) ∧ w'.cell? ⟨w5.heap.size, 2, none⟩ = some (.int .i64 2) ∧ w'.cell? ⟨w5.heap.size + 1, 0, none⟩ = some (.int .i64 (y / 1099511627776)) ∧ w'.cell? ⟨w5.heap.size + 1, 1, none⟩ = some (.int .i64 (y / 1048576 % 1048576)) ∧ w'.cell? ⟨w5.heap.size + 1, 2, none⟩ = some (.int .i64 (y % 1048576)) ∧ w'.cell? ⟨w3.heap.size, 0, none⟩ = some (.int .i64 (x / 1099511627776)) ∧ w'.cell? ⟨w3.heap.size, 1, none⟩ = some (.int .i64 (x / 1048576 % 1048576)) ∧ w'.cell? ⟨w3.heap.size, 2, none⟩ = some (.int .i64 (x % 1048576)))
        (first | go_keep) (fail)
      go_wp2
      have o6 : Only (fun j => j = w.heap.size + 1 + 1) w5 ((((w6.setCell ⟨w.heap.size + 1 + 1, 0, none⟩ (.slice A5 D.length cap5)).setCell ⟨w.heap.size + 1 + 1, 1, none⟩ (.int .i64 (cnt + 1))).setCell ⟨w.heap.size + 1 + 1, 2, none⟩ (.int .i64 2)).drew) := by
        have o := (((((ofBelow (S := fun j => j = w.heap.size + 1 + 1) K0.out).setCell (p := ⟨w.heap.size + 1 + 1, 0, none⟩) (fun _ => rfl) (.slice A5 D.length cap5)).setCell (p := ⟨w.heap.size + 1 + 1, 1, none⟩) (fun _ => rfl) (.int .i64 (cnt + 1))).setCell (p := ⟨w.heap.size + 1 + 1, 2, none⟩) (fun _ => rfl) (.int .i64 2)))
        exact ⟨o.os, o.tape, o.output, o.size, o.block⟩
      obtain ⟨⟨z0, z1, z2⟩, _⟩ := cell3 (show ((((w6.setCell ⟨w.heap.size + 1 + 1, 0, none⟩ (.slice A5 D.length cap5)).setCell ⟨w.heap.size + 1 + 1, 1, none⟩ (.int .i64 (cnt + 1))).setCell ⟨w.heap.size + 1 + 1, 2, none⟩ (.int .i64 2)).drew).heap[w.heap.size + 1 + 1]? = _ from put3 K4.out (.slice A5 D.length cap5) (.int .i64 (cnt + 1)) (.int .i64 2))
      first
        | (refine bodyPost_ret (v := .tuple #[.agg #[(.slice A5 D.length cap5), .int .i64 (cnt + 1), .int .i64 2], .bool true]) ?_ rfl (fin.out _ _ _ (fun _ => rfl) o6) ; (generalize ((((w6.setCell ⟨w.heap.size + 1 + 1, 0, none⟩ (.slice A5 D.length cap5)).setCell ⟨w.heap.size + 1 + 1, 1, none⟩ (.int .i64 (cnt + 1))).setCell ⟨w.heap.size + 1 + 1, 2, none⟩ (.int .i64 2)).drew) = wz at z0 z1 z2 ⊢ ; simp [results, Try.results19, go_sem, z0, z1, z2]; done))
        | (refine bodyPost_ret (v := .tuple #[.agg #[(.slice A5 D.length cap5), .int .i64 (cnt + 1), .int .i64 2], .bool false]) ?_ rfl (fin.out _ _ _ (fun e => (by subst e; have exy : x = y := hrx.symm.trans hry; subst exy; omega)) o6) ; (generalize ((((w6.setCell ⟨w.heap.size + 1 + 1, 0, none⟩ (.slice A5 D.length cap5)).setCell ⟨w.heap.size + 1 + 1, 1, none⟩ (.int .i64 (cnt + 1))).setCell ⟨w.heap.size + 1 + 1, 2, none⟩ (.int .i64 2)).drew) = wz at z0 z1 z2 ⊢ ; simp [results, Try.results19, go_sem, z0, z1, z2]; done))

end Go.Proofs.Ytllibgjajlgnbab.RingDo
