/- RingOnce: of many who claim an entry of which they saw the same, the first one does alone. Laid by genlaws18.py. -/
import Derived.LoopTactic
import Derived.Test.YtllibgjajlgnbabRingKit
namespace Go.Proofs.Ytllibgjajlgnbab.WalkRingOnce
open Go Go.RowKit Go.Proofs.Ytllibgjajlgnbab.Only Go.Proofs.Ytllibgjajlgnbab.Mem Go.Proofs.Ytllibgjajlgnbab.New Go.Proofs.Ytllibgjajlgnbab.Ref Go.Proofs.Ytllibgjajlgnbab.Ring Go.Proofs.Ytllibgjajlgnbab.RingRef Go.Proofs.Ytllibgjajlgnbab.RingDo Go.Proofs.Ytllibgjajlgnbab.RingRan Go.Proofs.Ytllibgjajlgnbab.RingKit Go.Proofs.Ytllibgjajlgnbab.Args
set_option linter.unusedVariables false
set_option linter.unusedSimpArgs false

set_option maxHeartbeats 8000000 in
set_option maxRecDepth 2000000 in
theorem walk (V : Value) (ds : List (List Value)) (n c0 c1 c2 c3 : Int) (hn : 0 ≤ n ∧ n ≤ 65535) (hc0 : 0 ≤ c0 ∧ c0 ≤ 255) (hc1 : 0 ≤ c1 ∧ c1 ≤ 255) (hc2 : 0 ≤ c2 ∧ c2 ≤ 255) (hc3 : 0 ≤ c3 ∧ c3 ≤ 255) (W : World) (hV : StructsV ks11 W V ds) :
    Calls Try.prog 3 #[V, .int .u16 n, .agg #[.int .u8 c0, .int .u8 c1, .int .u8 c2, .int .u8 c3]] W fun e w' => e = .returned (.bool true) ∧ Below W.heap.size W w' := by
  have ho := ok16 hn
  have K := Lib.hid (heap_alloc_new W (.cells #[.int .u8 c0, .int .u8 c1, .int .u8 c2, .int .u8 c3] 24))
  go_enter Try.func3, Try.ntmps3
  go_wp2_with fail
  refine (RingAwake.awake _).mono ?_
  rintro e wA ⟨rfl, hbA⟩
  have KA := Lib.hid ((hbA.block _ (lt_of_heap K.out)).trans K.out)
  have BA := Lib.hid ((al W (.cells #[.int .u8 c0, .int .u8 c1, .int .u8 c2, .int .u8 c3] 24)).trans (hbA.mono (al W (.cells #[.int .u8 c0, .int .u8 c1, .int .u8 c2, .int .u8 c3] 24)).size))
  have hVA := Lib.hid ((hV.below (al W (.cells #[.int .u8 c0, .int .u8 c1, .int .u8 c2, .int .u8 c3] 24))).below hbA)
  clear hbA hV
  go_wp2_with fail
  refine (RingRan.ran V ds _ hVA.out).mono ?_
  rintro e w0 ⟨b, p, v, C, m, rfl, l0, hC, hm0, hm, hb0⟩
  have B0 := Lib.hid hb0
  have s0 := hb0.size
  have hl0 := Lib.hid l0.len
  clear hb0
  go_wp2_with fail
  refine (RingNew.slot l0 hC (1 + n) (by omega) (by omega)).mono ?_
  rintro e w1 ⟨rfl, l1, o1⟩
  have B1 := Lib.hid (B0.out.trans (footL l0 o1 s0))
  have s1 := B1.out.size
  clear l0 o1
  have hA := RingRan.asks_range (1 + n)
  have kA := lt_of_heap KA.out
  have box : ∀ w', Below wA.heap.size wA w' → w'.cell? ⟨W.heap.size, 0, none⟩ = some (.int .u8 c0) ∧ w'.cell? ⟨W.heap.size, 1, none⟩ = some (.int .u8 c1) ∧ w'.cell? ⟨W.heap.size, 2, none⟩ = some (.int .u8 c2) ∧ w'.cell? ⟨W.heap.size, 3, none⟩ = some (.int .u8 c3) := fun w' hb => by
    have e := (hb.block _ kA).trans KA.out
    simp [World.cell?, e]
  have box := Lib.hid box
  obtain ⟨x0, x1, x2, x3⟩ := box.out w1 B1.out
  cases hb : lookB C 0 (1 + n) with
  | true =>
    have fin := Lib.hid (BA.out.trans (B1.out.mono BA.out.size))
    clear l1
    go_wp2
    go_ret
    exact ⟨rfl, fin.out⟩
  | false =>
    have e1 : lookW C 0 (1 + n) = rdAt C (rc 0 (1 + n)) := lookW_in ho
    have hne : lookW C 0 (1 + n) ≠ wordOf (1 + n) c0 := by
      intro e
      have hb2 := hb
      unfold lookB at hb2
      rw [ho, ← e1, e] at hb2
      have : wordOf (1 + n) c0 / 4294967296 = 1 + n := by unfold wordOf; omega
      simp [this] at hb2
    have hC2 := setC_range hC 0 (1 + n) (lookW C 0 (1 + n)) c0 (by omega)
    have q1 := setB_hit (row := 0) hl0.out (.inl rfl) ho e1
    have q2 := rd_setC_same (row := 0) hl0.out (.inl rfl) ho e1 c0
    have q3 := look_word (C := setC C 0 (1 + n) (lookW C 0 (1 + n)) c0) (row := 0) (k := 1 + n) ho (by omega) q2
    have q4 : setB (setC C 0 (1 + n) (lookW C 0 (1 + n)) c0) 0 (1 + n) (lookW C 0 (1 + n)) = false := setB_miss (by rw [q2]; exact hne)
    have q5 : ∀ y, setC (setC C 0 (1 + n) (lookW C 0 (1 + n)) c0) 0 (1 + n) (lookW C 0 (1 + n)) y = setC C 0 (1 + n) (lookW C 0 (1 + n)) c0 := fun y => setC_miss (by rw [q2]; exact hne) y
    have Q := Lib.hid (And.intro q3 (And.intro q4 q5))
    have q1 := Lib.hid q1
    clear q2 q3 q4 q5 hne e1 hC hb
    go_wp2_with fail
    refine (RingNew.claim l1 (1 + n) (lookW C 0 (1 + n)) c0 (by omega) (by omega) (by omega)).mono ?_
    rintro e w2 ⟨rfl, l2, o2⟩
    have B2 := Lib.hid (B1.out.trans (footL l1 o2 s1))
    have s2 := B2.out.size
    rw [q1.out]
    generalize setC C 0 (1 + n) (lookW C 0 (1 + n)) c0 = C1 at *
    generalize lookW C 0 (1 + n) = was at *
    generalize lookA C 0 (1 + n) = za at *
    clear l1 o2
    obtain ⟨x0, x1, x2, x3⟩ := box.out w2 B2.out
    have L := Lib.hid l2
    clear l2
    go_wp2_with fail
    go_loopw [14, 15] (fun c i wr => ∃ k : Nat, 1 ≤ k ∧ k ≤ 4 ∧ c = .int .i64 0 ∧ i = .int .i64 k ∧ ∃ m' : Int, 0 ≤ m' ∧ m' ≤ 62 + k ∧ Hid (LogAt wA.heap.size b p v C1 m' wr) ∧ Hid (Below wA.heap.size wA wr))
      (fun _ i _ => 5 - (intOf i).toNat)
    case atStart => exact ⟨1, by omega, by omega, rfl, by go_num, m + asks (1 + n) + asks (1 + n), by omega, by omega, L, B2⟩
    case round =>
      clear L B2 s2 x0 x1 x2 x3 B1 s1
      obtain ⟨k, hk1, hk4, rfl, rfl, m', hm1, hm2, L, Bk⟩ := hrel
      obtain ⟨x0, x1, x2, x3⟩ := box.out wr Bk.out
      have sk := Bk.out.size
      have hlt : k = 1 ∨ k = 2 ∨ k = 3 ∨ k = 4 := by omega
      rcases hlt with rfl | rfl | rfl | rfl
      · go_wp2_with fail
        refine (RingNew.claim L.out (1 + n) was c1 (by omega) (by omega) (by omega)).mono ?_
        rintro e w5 ⟨rfl, l5, o5⟩
        rw [Q.out.2.1]
        rw [Q.out.2.2] at l5
        have B5 := Lib.hid (Bk.out.trans (footL L.out o5 sk))
        have l5 := Lib.hid l5
        clear o5
        go_wp2
        go_roundw
        case rel => exact ⟨2, by omega, by omega, rfl, by go_num, m' + asks (1 + n), by omega, by omega, l5, B5⟩
        case measure => simp [intOf]
      · go_wp2_with fail
        refine (RingNew.claim L.out (1 + n) was c2 (by omega) (by omega) (by omega)).mono ?_
        rintro e w5 ⟨rfl, l5, o5⟩
        rw [Q.out.2.1]
        rw [Q.out.2.2] at l5
        have B5 := Lib.hid (Bk.out.trans (footL L.out o5 sk))
        have l5 := Lib.hid l5
        clear o5
        go_wp2
        go_roundw
        case rel => exact ⟨3, by omega, by omega, rfl, by go_num, m' + asks (1 + n), by omega, by omega, l5, B5⟩
        case measure => simp [intOf]
      · go_wp2_with fail
        refine (RingNew.claim L.out (1 + n) was c3 (by omega) (by omega) (by omega)).mono ?_
        rintro e w5 ⟨rfl, l5, o5⟩
        rw [Q.out.2.1]
        rw [Q.out.2.2] at l5
        have B5 := Lib.hid (Bk.out.trans (footL L.out o5 sk))
        have l5 := Lib.hid l5
        clear o5
        go_wp2
        go_roundw
        case rel => exact ⟨4, by omega, by omega, rfl, by go_num, m' + asks (1 + n), by omega, by omega, l5, B5⟩
        case measure => simp [intOf]
      · have l3 := L.out
        go_wp2_with fail
        refine (RingNew.slot l3 hC2 (1 + n) (by omega) (by omega)).mono ?_
        rintro e w6 ⟨rfl, l6, o6⟩
        rw [Q.out.1.1, Q.out.1.2]
        have B6 := Lib.hid (Bk.out.trans (footL l3 o6 sk))
        obtain ⟨x0, x1, x2, x3⟩ := box.out w6 B6.out
        have fin := Lib.hid (BA.out.trans (B6.out.mono BA.out.size))
        have hwr : IntKind.i64.wrap c0 = c0 := IntWalk.i64_in c0 (by omega)
        clear l3 l6 o6
        go_wp2
        go_ret
        exact ⟨rfl, fin.out⟩
end Go.Proofs.Ytllibgjajlgnbab.WalkRingOnce
