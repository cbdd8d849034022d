/- RingStays: what stands at a number stays there. Laid by genstays.py. -/
import Derived.LoopTactic
import Derived.Test.YtllibgjajlgnbabRingKit
namespace Go.Proofs.Ytllibgjajlgnbab.WalkRingStays
open Go Go.RowKit Go.Proofs.Ytllibgjajlgnbab.Only Go.Proofs.Ytllibgjajlgnbab.Mem Go.Proofs.Ytllibgjajlgnbab.New Go.Proofs.Ytllibgjajlgnbab.Ref Go.Proofs.Ytllibgjajlgnbab.Ring Go.Proofs.Ytllibgjajlgnbab.RingRef Go.Proofs.Ytllibgjajlgnbab.RingDo Go.Proofs.Ytllibgjajlgnbab.RingRan Go.Proofs.Ytllibgjajlgnbab.RingKit Go.Proofs.Ytllibgjajlgnbab.Args
set_option linter.unusedVariables false
set_option linter.unusedSimpArgs false

/-- A deed elsewhere leaves what stands at a number. -/
theorem stays {X D : List Int} {k N what a0 a1 a2 d0 d1 d2 raw q : Int} {odd : Bool} (hq : 1 ≤ q ∧ q ≤ 65536) (h : N < 1 ∨ ¬ (N - q) % 16 = 0) (r : Int) (hr : r = 0 ∨ r = 1) : rdAt (doC X D k N what a0 a1 a2 d0 d1 d2 raw odd) (rc r q) = rdAt X (rc r q) := by
  have hs : ∀ row was, row = 0 ∨ row = 1 → rdAt (setC X row N was what) (rc r q) = rdAt X (rc r q) := fun row was hrow => rd_setC_other _ _ _ _ _ _ (fun ho => by
    have ho : 1 ≤ N ∧ N ≤ 2147483647 := by simpa [okN] using ho
    unfold rc; omega)
  unfold doC
  split; rfl
  split
  · exact rd_casAt_other _ _ _ _ _ (by unfold rc; omega)
  split; rfl
  split; exact hs _ _ (.inl rfl)
  split; rfl
  exact hs _ _ (.inr rfl)

set_option maxHeartbeats 8000000 in
set_option maxRecDepth 2000000 in
theorem walk (V : Value) (ds : List (List Value)) (V2 : Value) (es : List (List Value)) (n : Int) (hn : 0 ≤ n ∧ n ≤ 65535) (W : World) (hV : StructsV ks11 W V ds) (hV2 : StructsV ks11 W V2 es) :
    Calls Try.prog 4 #[V, V2, .int .u16 n] W fun e w' => e = .returned (.bool true) ∧ Below W.heap.size W w' := by
  have ho := ok16 hn
  have hmk : ∀ w : World, (Instr.makeSlice 33 (.int .i64 2) (.int .i64 2)).run Try.prog w = .ok (.slice (some ⟨w.heap.size, 0, none⟩) 2 2) (w.alloc (.cells (madeCells #[.int .u64 0] 2) 28)) := run_make_row' (P := Try.prog) 33 28 (.int .u64 0) 8 Try.underlying33 info_u64 rfl .i64 .i64 2 (by omega) (by omega)
  obtain ⟨A, cap, rfl, hl, -⟩ := hV2.shape
  unfold maxLen at hl
  have hV2 := Lib.hid hV2
  go_enter Try.func4, Try.ntmps4
  go_wp2_with fail
  refine (RingAwake.awake _).mono ?_
  rintro e wA ⟨rfl, hbA⟩
  have hVB := Lib.hid (hV2.out.below hbA)
  have BA := Lib.hid ((Below.refl W.heap.size W).trans (hbA.mono (Below.refl W.heap.size W).size))
  have hVA := Lib.hid ((hV.below (Below.refl W.heap.size W)).below hbA)
  clear hbA hV hV2
  go_wp2_with fail
  refine (RingRan.ran V ds _ hVA.out).mono ?_
  rintro e w0 ⟨b, p, v, C, m, rfl, l0, hC, hm0, hm, hb0⟩
  have B0 := Lib.hid hb0
  have s0 := hb0.size
  have hl0 := Lib.hid l0.len
  clear hb0
  go_wp2_with fail
  refine (RingNew.slot l0 hC (1 + n) (by omega) (by omega)).mono ?_
  rintro e w1 ⟨rfl, l1, o1⟩
  have B1 := Lib.hid (B0.out.trans (footL l0 o1 s0))
  have s1 := B1.out.size
  clear l0 o1
  have hA := RingRan.asks_range (1 + n)
  go_wp2_with fail
  refine (RingNew.done l1 hC (1 + n) (by omega) (by omega)).mono ?_
  rintro e w2 ⟨rfl, l2, o2⟩
  have B2 := Lib.hid (B1.out.trans (footL l1 o2 s1))
  have s2 := B2.out.size
  clear l1 o2
  go_wp2_with fail
  refine (RingRef.new _ _ wA.heap.size (RingRan.two w2 s2) (by simp; omega)).mono ?_
  rintro e w4 ⟨s', rfl, h4⟩
  obtain ⟨A4, cap4, hs4, hcap4⟩ := own_any h4.ref.own
  rw [show (List.replicate 35 (0:Int)).length = 35 by simp] at hs4
  subst hs4
  have R := Lib.hid (RingRan.Round.start 100 l2 hC (by omega) (by omega) B2.out (u1 := .int .i64 0) (al _ _) h4 (fun j hj => by simp [Value.ownBlock] at hj; omega))
  clear h4 l2
  have ea0 := Lib.hid (rfl : lookA C 0 (1 + n) = lookA C 0 (1 + n))
  generalize hz1 : lookA C 0 (1 + n) = z1
  generalize hz2 : lookW C 0 (1 + n) = z2
  generalize hz3 : lookB C 0 (1 + n) = z3
  generalize hz4 : lookA C 1 (1 + n) = z4
  generalize hz5 : lookW C 1 (1 + n) = z5
  generalize hz6 : lookB C 1 (1 + n) = z6
  have Z := Lib.hid (And.intro hz1 (And.intro hz2 (And.intro hz3 (And.intro hz4 (And.intro hz5 hz6)))))
  clear ea0 hz1 hz2 hz3 hz4 hz5 hz6
  go_wp2_with fail
  generalize (w4.alloc (.cells #[.slice A4 35 cap4, .int .i64 0, .int .i64 2] 37)) = w5 at *
  generalize w4.heap.size = q at *
  go_loopw [18] (fun i wr => ∃ k s C2 D n2 cnt, k ≤ es.length ∧ k ≤ 60 ∧ i = .int .i64 k ∧ rdAt C2 (rc 0 (1 + n)) = rdAt C (rc 0 (1 + n)) ∧ rdAt C2 (rc 1 (1 + n)) = rdAt C (rc 1 (1 + n)) ∧ Hid (RingRan.Round wA b p q 100 k v s C2 D n2 cnt wr))
    (fun i _ => 60 - (intOf i).toNat)
  case atStart => exact ⟨0, _, _, _, _, 0, by omega, by omega, rfl, rfl, rfl, R⟩
  case round =>
    clear R
    obtain ⟨k, s, C2, D, n2, cnt, hk, hk60, rfl, hr0, hr1, R⟩ := hrel
    replace hr0 := Lib.hid hr0
    replace hr1 := Lib.hid hr1
    obtain ⟨A1, cap1, hs1, hcap1⟩ := own_any R.out.ref.own
    subst hs1
    obtain ⟨⟨a0, a1, a2⟩, a3, a4, a5⟩ := cell3 R.out.x
    by_cases hlt : k < es.length ∧ k < 60
    · obtain ⟨hlt, hlt60⟩ := hlt
      obtain ⟨x, rfl, dOk, hdc⟩ := deedCells hVB.out hlt
      generalize deedOf (es.getD k []) = dd at *
      obtain ⟨dk, dN, dwh, da0, da1, da2, dd0, dd1, dd2, draw, dodd⟩ := dd
      dsimp only at hdc
      have b1 : decide ((k : Int) < es.length) = true := by simp; omega
      have b2 : decide ((k : Int) < 60) = true := by simp; omega
      have hOk := Lib.hid dOk
      have hxb := (hdc wA (Below.refl _ _)).2
      have hcell := Lib.hid (fun w' hb => (hdc w' hb).1)
      clear hdc dOk
      obtain ⟨f0, f1, f2, f3, f4, f5, f6, f7, f8, f9, f10⟩ := hcell.out wr R.out.bel
      have dN1 := hOk.out.N
      dsimp only [RingRan.i64] at dN1
      have etm : ((dN - (1 + n)).tmod 16 = 0) ↔ (dN - (1 + n)) % 16 = 0 := by
        rw [← Int.dvd_iff_tmod_eq_zero, ← Int.dvd_iff_emod_eq_zero]
      have hcs : (decide (dN < 1) = true ∧ (dN < 1 ∨ ¬ (dN - (1 + n)) % 16 = 0)) ∨ (decide (dN < 1) = false ∧ ((dN - (1 + n)).tmod 16 != 0) = true ∧ 1 ≤ dN ∧ (dN < 1 ∨ ¬ (dN - (1 + n)) % 16 = 0)) ∨ (decide (dN < 1) = false ∧ ((dN - (1 + n)).tmod 16 != 0) = false ∧ 1 ≤ dN) := by
        by_cases h1 : dN < 1
        · exact .inl ⟨by simpa using h1, .inl h1⟩
        · by_cases h2 : (dN - (1 + n)) % 16 = 0
          · exact .inr (.inr ⟨by simpa using h1, by simpa using etm.2 h2, by omega⟩)
          · exact .inr (.inl ⟨by simpa using h1, by simpa using fun e => h2 (etm.1 e), by omega, .inr h2⟩)
      clear etm
      rcases hcs with ⟨c1, hel⟩ | ⟨c1, c2, c3, hel⟩ | ⟨c1, c2, c3⟩
      · have hel := Lib.hid hel
        go_wp2_with fail
        have Rd := Lib.hid R.out.drew
        have Rd2 := Lib.hid (R.out.next (al wr (.cells #[.slice none 0 0, .int .i64 0, .int .i64 0] 37))).drew
        have hqw := lt_of_heap R.out.x
        have hWw := R.out.bel.size
        have ne1 : ¬ wr.heap.size = q := by omega
        have ne2 : ¬ wr.heap.size = (x.add (k * 11)).block := by rw [add_block]; omega
        have ne3 : ∀ o, ¬ (⟨wr.heap.size, o, none⟩ : Addr) = x.add (k * 11) := fun o e => ne2 (by rw [← e])
        have ne4 : ¬ q = wr.heap.size := by omega
        have ne5 : ¬ (x.add (k * 11)).block = wr.heap.size := fun e => ne2 e.symm
        have ne6 : ∀ o, ¬ x.add (k * 11) = (⟨wr.heap.size, o, none⟩ : Addr) := fun o e => ne3 o e.symm
        go_wp2_with fail
        go_region_held3 (fun w' => w'.cell? ⟨q, 0, none⟩ = some (.slice A1 D.length cap1) ∧ w'.cell? ⟨q, 1, none⟩ = some (.int .i64 cnt) ∧ w'.cell? ⟨q, 2, none⟩ = some (.int .i64 2) ∧ w'.cell? (x.add (k * 11)) = some (.int .i64 dk) ∧ w'.cell? ⟨(x.add (k * 11)).block, (x.add (k * 11)).off + 1, none⟩ = some (.int .i64 dN) ∧ w'.cell? ⟨(x.add (k * 11)).block, (x.add (k * 11)).off + 2, none⟩ = some (.int .i64 dwh) ∧ w'.cell? ⟨(x.add (k * 11)).block, (x.add (k * 11)).off + 3, none⟩ = some (.int .i64 da0) ∧ w'.cell? ⟨(x.add (k * 11)).block, (x.add (k * 11)).off + 4, none⟩ = some (.int .i64 da1) ∧ w'.cell? ⟨(x.add (k * 11)).block, (x.add (k * 11)).off + 5, none⟩ = some (.int .i64 da2) ∧ w'.cell? ⟨(x.add (k * 11)).block, (x.add (k * 11)).off + 6, none⟩ = some (.int .i64 dd0) ∧ w'.cell? ⟨(x.add (k * 11)).block, (x.add (k * 11)).off + 7, none⟩ = some (.int .i64 dd1) ∧ w'.cell? ⟨(x.add (k * 11)).block, (x.add (k * 11)).off + 8, none⟩ = some (.int .i64 dd2) ∧ w'.cell? ⟨(x.add (k * 11)).block, (x.add (k * 11)).off + 9, none⟩ = some (.int .u64 draw) ∧ w'.cell? ⟨(x.add (k * 11)).block, (x.add (k * 11)).off + 10, none⟩ = some (.bool dodd))
          (first | go_keep | exact S5)
          (first
            | (go_at_call 19 ; refine (deed Rd.out.log Rd.out.hC (by have := Rd.out.n0 ; have := Rd.out.nk ; omega) _ D Rd.out.ref Rd.out.dl Rd.out.hD Rd.out.ap Rd.out.bel.size cnt (by have := Rd.out.c0 ; have := Rd.out.ck ; omega) dk dN dwh da0 da1 da2 dd0 dd1 dd2 draw dodd hOk.out).mono ?_ ; rintro e w5 ⟨s', ok, rfl, m5, r5, ap5, o5, ok5⟩ ; obtain ⟨A5, cap5, hs5, hcap5⟩ := own_any r5.own ; have hl5 := doC_length D D dk dN (max dwh 0 % 1073741824) da0 da1 da2 dd0 dd1 dd2 draw dodd ; rw [hl5] at hs5 ; subst hs5 ; have x5 := (o5.block _ (lt_of_heap Rd.out.x) (apartL Rd.out.log Rd.out.ref (.inr Rd.out.x)).1).trans Rd.out.x ; obtain ⟨⟨y0, y1, y2⟩, y3, y4, y5⟩ := cell3 x5 ; have B5 := Rd.out.bel.trans (footL Rd.out.log o5 Rd.out.bel.size) ; have S5 := And.intro y0 (And.intro y1 (And.intro y2 (hcell.out w5 B5))) ; have K5 := Lib.hid (And.intro m5 (And.intro r5 (And.intro ap5 (And.intro o5 (And.intro ok5 (And.intro x5 B5)))))) ; clear m5 r5 ap5 o5 x5 B5 hl5 ok5)
            | (go_at_call 19 ; refine (deed Rd2.out.log Rd2.out.hC (by have := Rd2.out.n0 ; have := Rd2.out.nk ; omega) _ D Rd2.out.ref Rd2.out.dl Rd2.out.hD Rd2.out.ap Rd2.out.bel.size cnt (by have := Rd2.out.c0 ; have := Rd2.out.ck ; omega) dk dN dwh da0 da1 da2 dd0 dd1 dd2 draw dodd hOk.out).mono ?_ ; rintro e w5 ⟨s', ok, rfl, m5, r5, ap5, o5, ok5⟩ ; obtain ⟨A5, cap5, hs5, hcap5⟩ := own_any r5.own ; have hl5 := doC_length D D dk dN (max dwh 0 % 1073741824) da0 da1 da2 dd0 dd1 dd2 draw dodd ; rw [hl5] at hs5 ; subst hs5 ; have x5 := (o5.block _ (lt_of_heap Rd2.out.x) (apartL Rd2.out.log Rd2.out.ref (.inr Rd2.out.x)).1).trans Rd2.out.x ; obtain ⟨⟨y0, y1, y2⟩, y3, y4, y5⟩ := cell3 x5 ; have B5 := Rd2.out.bel.trans (footL Rd2.out.log o5 Rd2.out.bel.size) ; have S5 := And.intro y0 (And.intro y1 (And.intro y2 (hcell.out w5 B5))) ; have x6 := (o5.block wr.heap.size (by simp) (RingPub.foot_lt' R.out.log.mem _ (Nat.le_refl _))).trans (new3 wr (.slice none 0 0) (.int .i64 0) (.int .i64 0) 37) ; obtain ⟨⟨t0, t1, t2⟩, t3, t4, t5⟩ := cell3 x6 ; have K5 := Lib.hid (And.intro m5 (And.intro r5 (And.intro ap5 (And.intro o5 (And.intro ok5 (And.intro x5 B5)))))) ; clear m5 r5 ap5 o5 x5 B5 hl5 ok5))
        · obtain ⟨m5, r5, ap5, o5, ok5, x5, B5⟩ := K5.out
          have y6 := new3 w5 (.slice A5 D.length cap5) (.int .i64 (cnt + RingDo.doA dk dN)) (.int .i64 2) 37
          have q6 := (heap_alloc_old w5 (.cells #[(.slice A5 D.length cap5), (.int .i64 (cnt + RingDo.doA dk dN)), .int .i64 2] 37) (lt_of_heap x5)).trans x5
          have ht : w5.heap.size ≤ w5.heap.size ∨ w5.heap[w5.heap.size]? = some (.cells #[] 37 (0, 0)) := .inl (Nat.le_refl _)
          have hB5 := B5.size
          have hq5 := lt_of_heap x5
          have ne7 : ¬ w5.heap.size = q := by omega
          have ne8 : ¬ q = w5.heap.size := by omega
          obtain ⟨⟨u0, u1, u2⟩, u3, u4, u5⟩ := cell3 y6
          obtain ⟨⟨v0, v1, v2⟩, v3, v4, v5⟩ := cell3 q6
          have hn5 := doA_range dk dN
          have hn6 := R.out.n0
          have hn7 := R.out.nk
          have hn8 := R.out.c0
          have hn9 := R.out.ck
          have hw6 : 0 ≤ max dwh 0 % 1073741824 ∧ max dwh 0 % 1073741824 ≤ 1073741824 := by omega
          have x7 := (heap_alloc_old (((w5.setCell ⟨q, 0, none⟩ (.slice A5 D.length cap5)).setCell ⟨q, 1, none⟩ (.int .i64 (cnt + RingDo.doA dk dN))).setCell ⟨q, 2, none⟩ (.int .i64 2)) (.cells #[(.slice A5 D.length cap5), (.int .i64 (cnt + RingDo.doA dk dN)), .int .i64 2] 37) (by simpa [World.setCell] using hq5)).trans (put3 x5 (.slice A5 D.length cap5) (.int .i64 (cnt + RingDo.doA dk dN)) (.int .i64 2))
          have o7 : Only (fun j => j = q ∨ j = w5.heap.size) w5 ((((w5.setCell ⟨q, 0, none⟩ (.slice A5 D.length cap5)).setCell ⟨q, 1, none⟩ (.int .i64 (cnt + RingDo.doA dk dN))).setCell ⟨q, 2, none⟩ (.int .i64 2)).alloc (.cells #[(.slice A5 D.length cap5), (.int .i64 (cnt + RingDo.doA dk dN)), .int .i64 2] 37)) :=
            ((((refl (fun j => j = q ∨ j = w5.heap.size) w5).setCell (p := ⟨q, 0, none⟩) (fun _ => .inl rfl) _).setCell (p := ⟨q, 1, none⟩) (fun _ => .inl rfl) _).setCell (p := ⟨q, 2, none⟩) (fun _ => .inl rfl) _).alloc _
          have fin := Lib.hid (Round.step (k := k) R.out m5 r5 ap5 (doC_range R.out.hC _ _ _ _ _ _ _ _ _ _ _ hw6) ((doC_length _ _ _ _ _ _ _ _ _ _ _ _ _).trans R.out.dl) (doC_range R.out.hD _ _ _ _ _ _ _ _ _ _ _ hw6) x5 B5 (by omega) (by omega) (by omega) (by omega) ht (by omega) o7 x7)
          have ok5 := Lib.hid ok5
          clear m5 r5 ap5 o5 x5 o7 x7 ht y6 q6
          have hst0 := (stays (X := C2) (D := D) (k := dk) (what := max dwh 0 % 1073741824) (a0 := da0) (a1 := da1) (a2 := da2) (d0 := dd0) (d1 := dd1) (d2 := dd2) (raw := draw) (odd := dodd) (q := 1 + n) (by omega) hel.out 0 (.inl rfl)).trans hr0.out
          have hst1 := (stays (X := C2) (D := D) (k := dk) (what := max dwh 0 % 1073741824) (a0 := da0) (a1 := da1) (a2 := da2) (d0 := dd0) (d1 := dd1) (d2 := dd2) (raw := draw) (odd := dodd) (q := 1 + n) (by omega) hel.out 1 (.inr rfl)).trans hr1.out
          have hst := Lib.hid (And.intro hst0 hst1)
          clear hst0 hst1
          go_wp2
          go_roundw
          case rel => exact ⟨k + 1, _, _, _, _, _, by omega, by omega, by go_num, hst.out.1, hst.out.2, fin⟩
          case measure => simp [intOf]; omega
        · obtain ⟨m5, r5, ap5, o5, ok5, x5, B5⟩ := K5.out
          have y6 := put3 x6 (.slice A5 D.length cap5) (.int .i64 (cnt + RingDo.doA dk dN)) (.int .i64 2)
          have q6 : (((w5.setCell ⟨wr.heap.size, 0, none⟩ (.slice A5 D.length cap5)).setCell ⟨wr.heap.size, 1, none⟩ (.int .i64 (cnt + RingDo.doA dk dN))).setCell ⟨wr.heap.size, 2, none⟩ (.int .i64 2)).heap[q]? = some (.cells #[.slice A1 D.length cap1, .int .i64 cnt, .int .i64 2] 37 (0, 0)) := by
            rw [Below.heap_setCell _ _ _ _ ne4, Below.heap_setCell _ _ _ _ ne4, Below.heap_setCell _ _ _ _ ne4]; exact x5
          have ht : w5.heap.size ≤ wr.heap.size ∨ w5.heap[wr.heap.size]? = some (.cells #[.slice none 0 0, .int .i64 0, .int .i64 0] 37 (0, 0)) := .inr x6
          obtain ⟨⟨u0, u1, u2⟩, u3, u4, u5⟩ := cell3 y6
          obtain ⟨⟨v0, v1, v2⟩, v3, v4, v5⟩ := cell3 q6
          have hn5 := doA_range dk dN
          have hn6 := R.out.n0
          have hn7 := R.out.nk
          have hn8 := R.out.c0
          have hn9 := R.out.ck
          have hw6 : 0 ≤ max dwh 0 % 1073741824 ∧ max dwh 0 % 1073741824 ≤ 1073741824 := by omega
          have x7 := put3 q6 (.slice A5 D.length cap5) (.int .i64 (cnt + RingDo.doA dk dN)) (.int .i64 2)
          have o7 : Only (fun j => j = q ∨ j = wr.heap.size) w5 ((((((w5.setCell ⟨wr.heap.size, 0, none⟩ (.slice A5 D.length cap5)).setCell ⟨wr.heap.size, 1, none⟩ (.int .i64 (cnt + RingDo.doA dk dN))).setCell ⟨wr.heap.size, 2, none⟩ (.int .i64 2)).setCell ⟨q, 0, none⟩ (.slice A5 D.length cap5)).setCell ⟨q, 1, none⟩ (.int .i64 (cnt + RingDo.doA dk dN))).setCell ⟨q, 2, none⟩ (.int .i64 2)) :=
            ((((((refl (fun j => j = q ∨ j = wr.heap.size) w5).setCell (p := ⟨wr.heap.size, 0, none⟩) (fun _ => .inr rfl) (.slice A5 D.length cap5)).setCell (p := ⟨wr.heap.size, 1, none⟩) (fun _ => .inr rfl) (.int .i64 (cnt + RingDo.doA dk dN))).setCell (p := ⟨wr.heap.size, 2, none⟩) (fun _ => .inr rfl) (.int .i64 2)).setCell (p := ⟨q, 0, none⟩) (fun _ => .inl rfl) _).setCell (p := ⟨q, 1, none⟩) (fun _ => .inl rfl) _).setCell (p := ⟨q, 2, none⟩) (fun _ => .inl rfl) _
          have fin := Lib.hid (Round.step (k := k) R.out m5 r5 ap5 (doC_range R.out.hC _ _ _ _ _ _ _ _ _ _ _ hw6) ((doC_length _ _ _ _ _ _ _ _ _ _ _ _ _).trans R.out.dl) (doC_range R.out.hD _ _ _ _ _ _ _ _ _ _ _ hw6) x5 B5 (by omega) (by omega) (by omega) (by omega) ht (by omega) o7 x7)
          have ok5 := Lib.hid ok5
          clear m5 r5 ap5 o5 x5 o7 x7 ht y6 q6
          have hst0 := (stays (X := C2) (D := D) (k := dk) (what := max dwh 0 % 1073741824) (a0 := da0) (a1 := da1) (a2 := da2) (d0 := dd0) (d1 := dd1) (d2 := dd2) (raw := draw) (odd := dodd) (q := 1 + n) (by omega) hel.out 0 (.inl rfl)).trans hr0.out
          have hst1 := (stays (X := C2) (D := D) (k := dk) (what := max dwh 0 % 1073741824) (a0 := da0) (a1 := da1) (a2 := da2) (d0 := dd0) (d1 := dd1) (d2 := dd2) (raw := draw) (odd := dodd) (q := 1 + n) (by omega) hel.out 1 (.inr rfl)).trans hr1.out
          have hst := Lib.hid (And.intro hst0 hst1)
          clear hst0 hst1
          go_wp2
          go_roundw
          case rel => exact ⟨k + 1, _, _, _, _, _, by omega, by omega, by go_num, hst.out.1, hst.out.2, fin⟩
          case measure => simp [intOf]; omega
      · have hel := Lib.hid hel
        go_wp2_with fail
        have Rd := Lib.hid R.out.drew
        have Rd2 := Lib.hid (R.out.next (al wr (.cells #[.slice none 0 0, .int .i64 0, .int .i64 0] 37))).drew
        have hqw := lt_of_heap R.out.x
        have hWw := R.out.bel.size
        have ne1 : ¬ wr.heap.size = q := by omega
        have ne2 : ¬ wr.heap.size = (x.add (k * 11)).block := by rw [add_block]; omega
        have ne3 : ∀ o, ¬ (⟨wr.heap.size, o, none⟩ : Addr) = x.add (k * 11) := fun o e => ne2 (by rw [← e])
        have ne4 : ¬ q = wr.heap.size := by omega
        have ne5 : ¬ (x.add (k * 11)).block = wr.heap.size := fun e => ne2 e.symm
        have ne6 : ∀ o, ¬ x.add (k * 11) = (⟨wr.heap.size, o, none⟩ : Addr) := fun o e => ne3 o e.symm
        go_wp2_with fail
        go_region_held3 (fun w' => w'.cell? ⟨q, 0, none⟩ = some (.slice A1 D.length cap1) ∧ w'.cell? ⟨q, 1, none⟩ = some (.int .i64 cnt) ∧ w'.cell? ⟨q, 2, none⟩ = some (.int .i64 2) ∧ w'.cell? (x.add (k * 11)) = some (.int .i64 dk) ∧ w'.cell? ⟨(x.add (k * 11)).block, (x.add (k * 11)).off + 1, none⟩ = some (.int .i64 dN) ∧ w'.cell? ⟨(x.add (k * 11)).block, (x.add (k * 11)).off + 2, none⟩ = some (.int .i64 dwh) ∧ w'.cell? ⟨(x.add (k * 11)).block, (x.add (k * 11)).off + 3, none⟩ = some (.int .i64 da0) ∧ w'.cell? ⟨(x.add (k * 11)).block, (x.add (k * 11)).off + 4, none⟩ = some (.int .i64 da1) ∧ w'.cell? ⟨(x.add (k * 11)).block, (x.add (k * 11)).off + 5, none⟩ = some (.int .i64 da2) ∧ w'.cell? ⟨(x.add (k * 11)).block, (x.add (k * 11)).off + 6, none⟩ = some (.int .i64 dd0) ∧ w'.cell? ⟨(x.add (k * 11)).block, (x.add (k * 11)).off + 7, none⟩ = some (.int .i64 dd1) ∧ w'.cell? ⟨(x.add (k * 11)).block, (x.add (k * 11)).off + 8, none⟩ = some (.int .i64 dd2) ∧ w'.cell? ⟨(x.add (k * 11)).block, (x.add (k * 11)).off + 9, none⟩ = some (.int .u64 draw) ∧ w'.cell? ⟨(x.add (k * 11)).block, (x.add (k * 11)).off + 10, none⟩ = some (.bool dodd))
          (first | go_keep | exact S5)
          (first
            | (go_at_call 19 ; refine (deed Rd.out.log Rd.out.hC (by have := Rd.out.n0 ; have := Rd.out.nk ; omega) _ D Rd.out.ref Rd.out.dl Rd.out.hD Rd.out.ap Rd.out.bel.size cnt (by have := Rd.out.c0 ; have := Rd.out.ck ; omega) dk dN dwh da0 da1 da2 dd0 dd1 dd2 draw dodd hOk.out).mono ?_ ; rintro e w5 ⟨s', ok, rfl, m5, r5, ap5, o5, ok5⟩ ; obtain ⟨A5, cap5, hs5, hcap5⟩ := own_any r5.own ; have hl5 := doC_length D D dk dN (max dwh 0 % 1073741824) da0 da1 da2 dd0 dd1 dd2 draw dodd ; rw [hl5] at hs5 ; subst hs5 ; have x5 := (o5.block _ (lt_of_heap Rd.out.x) (apartL Rd.out.log Rd.out.ref (.inr Rd.out.x)).1).trans Rd.out.x ; obtain ⟨⟨y0, y1, y2⟩, y3, y4, y5⟩ := cell3 x5 ; have B5 := Rd.out.bel.trans (footL Rd.out.log o5 Rd.out.bel.size) ; have S5 := And.intro y0 (And.intro y1 (And.intro y2 (hcell.out w5 B5))) ; have K5 := Lib.hid (And.intro m5 (And.intro r5 (And.intro ap5 (And.intro o5 (And.intro ok5 (And.intro x5 B5)))))) ; clear m5 r5 ap5 o5 x5 B5 hl5 ok5)
            | (go_at_call 19 ; refine (deed Rd2.out.log Rd2.out.hC (by have := Rd2.out.n0 ; have := Rd2.out.nk ; omega) _ D Rd2.out.ref Rd2.out.dl Rd2.out.hD Rd2.out.ap Rd2.out.bel.size cnt (by have := Rd2.out.c0 ; have := Rd2.out.ck ; omega) dk dN dwh da0 da1 da2 dd0 dd1 dd2 draw dodd hOk.out).mono ?_ ; rintro e w5 ⟨s', ok, rfl, m5, r5, ap5, o5, ok5⟩ ; obtain ⟨A5, cap5, hs5, hcap5⟩ := own_any r5.own ; have hl5 := doC_length D D dk dN (max dwh 0 % 1073741824) da0 da1 da2 dd0 dd1 dd2 draw dodd ; rw [hl5] at hs5 ; subst hs5 ; have x5 := (o5.block _ (lt_of_heap Rd2.out.x) (apartL Rd2.out.log Rd2.out.ref (.inr Rd2.out.x)).1).trans Rd2.out.x ; obtain ⟨⟨y0, y1, y2⟩, y3, y4, y5⟩ := cell3 x5 ; have B5 := Rd2.out.bel.trans (footL Rd2.out.log o5 Rd2.out.bel.size) ; have S5 := And.intro y0 (And.intro y1 (And.intro y2 (hcell.out w5 B5))) ; have x6 := (o5.block wr.heap.size (by simp) (RingPub.foot_lt' R.out.log.mem _ (Nat.le_refl _))).trans (new3 wr (.slice none 0 0) (.int .i64 0) (.int .i64 0) 37) ; obtain ⟨⟨t0, t1, t2⟩, t3, t4, t5⟩ := cell3 x6 ; have K5 := Lib.hid (And.intro m5 (And.intro r5 (And.intro ap5 (And.intro o5 (And.intro ok5 (And.intro x5 B5)))))) ; clear m5 r5 ap5 o5 x5 B5 hl5 ok5))
        · obtain ⟨m5, r5, ap5, o5, ok5, x5, B5⟩ := K5.out
          have y6 := new3 w5 (.slice A5 D.length cap5) (.int .i64 (cnt + RingDo.doA dk dN)) (.int .i64 2) 37
          have q6 := (heap_alloc_old w5 (.cells #[(.slice A5 D.length cap5), (.int .i64 (cnt + RingDo.doA dk dN)), .int .i64 2] 37) (lt_of_heap x5)).trans x5
          have ht : w5.heap.size ≤ w5.heap.size ∨ w5.heap[w5.heap.size]? = some (.cells #[] 37 (0, 0)) := .inl (Nat.le_refl _)
          have hB5 := B5.size
          have hq5 := lt_of_heap x5
          have ne7 : ¬ w5.heap.size = q := by omega
          have ne8 : ¬ q = w5.heap.size := by omega
          obtain ⟨⟨u0, u1, u2⟩, u3, u4, u5⟩ := cell3 y6
          obtain ⟨⟨v0, v1, v2⟩, v3, v4, v5⟩ := cell3 q6
          have hn5 := doA_range dk dN
          have hn6 := R.out.n0
          have hn7 := R.out.nk
          have hn8 := R.out.c0
          have hn9 := R.out.ck
          have hw6 : 0 ≤ max dwh 0 % 1073741824 ∧ max dwh 0 % 1073741824 ≤ 1073741824 := by omega
          have x7 := (heap_alloc_old (((w5.setCell ⟨q, 0, none⟩ (.slice A5 D.length cap5)).setCell ⟨q, 1, none⟩ (.int .i64 (cnt + RingDo.doA dk dN))).setCell ⟨q, 2, none⟩ (.int .i64 2)) (.cells #[(.slice A5 D.length cap5), (.int .i64 (cnt + RingDo.doA dk dN)), .int .i64 2] 37) (by simpa [World.setCell] using hq5)).trans (put3 x5 (.slice A5 D.length cap5) (.int .i64 (cnt + RingDo.doA dk dN)) (.int .i64 2))
          have o7 : Only (fun j => j = q ∨ j = w5.heap.size) w5 ((((w5.setCell ⟨q, 0, none⟩ (.slice A5 D.length cap5)).setCell ⟨q, 1, none⟩ (.int .i64 (cnt + RingDo.doA dk dN))).setCell ⟨q, 2, none⟩ (.int .i64 2)).alloc (.cells #[(.slice A5 D.length cap5), (.int .i64 (cnt + RingDo.doA dk dN)), .int .i64 2] 37)) :=
            ((((refl (fun j => j = q ∨ j = w5.heap.size) w5).setCell (p := ⟨q, 0, none⟩) (fun _ => .inl rfl) _).setCell (p := ⟨q, 1, none⟩) (fun _ => .inl rfl) _).setCell (p := ⟨q, 2, none⟩) (fun _ => .inl rfl) _).alloc _
          have fin := Lib.hid (Round.step (k := k) R.out m5 r5 ap5 (doC_range R.out.hC _ _ _ _ _ _ _ _ _ _ _ hw6) ((doC_length _ _ _ _ _ _ _ _ _ _ _ _ _).trans R.out.dl) (doC_range R.out.hD _ _ _ _ _ _ _ _ _ _ _ hw6) x5 B5 (by omega) (by omega) (by omega) (by omega) ht (by omega) o7 x7)
          have ok5 := Lib.hid ok5
          clear m5 r5 ap5 o5 x5 o7 x7 ht y6 q6
          have hst0 := (stays (X := C2) (D := D) (k := dk) (what := max dwh 0 % 1073741824) (a0 := da0) (a1 := da1) (a2 := da2) (d0 := dd0) (d1 := dd1) (d2 := dd2) (raw := draw) (odd := dodd) (q := 1 + n) (by omega) hel.out 0 (.inl rfl)).trans hr0.out
          have hst1 := (stays (X := C2) (D := D) (k := dk) (what := max dwh 0 % 1073741824) (a0 := da0) (a1 := da1) (a2 := da2) (d0 := dd0) (d1 := dd1) (d2 := dd2) (raw := draw) (odd := dodd) (q := 1 + n) (by omega) hel.out 1 (.inr rfl)).trans hr1.out
          have hst := Lib.hid (And.intro hst0 hst1)
          clear hst0 hst1
          go_wp2
          go_roundw
          case rel => exact ⟨k + 1, _, _, _, _, _, by omega, by omega, by go_num, hst.out.1, hst.out.2, fin⟩
          case measure => simp [intOf]; omega
        · obtain ⟨m5, r5, ap5, o5, ok5, x5, B5⟩ := K5.out
          have y6 := put3 x6 (.slice A5 D.length cap5) (.int .i64 (cnt + RingDo.doA dk dN)) (.int .i64 2)
          have q6 : (((w5.setCell ⟨wr.heap.size, 0, none⟩ (.slice A5 D.length cap5)).setCell ⟨wr.heap.size, 1, none⟩ (.int .i64 (cnt + RingDo.doA dk dN))).setCell ⟨wr.heap.size, 2, none⟩ (.int .i64 2)).heap[q]? = some (.cells #[.slice A1 D.length cap1, .int .i64 cnt, .int .i64 2] 37 (0, 0)) := by
            rw [Below.heap_setCell _ _ _ _ ne4, Below.heap_setCell _ _ _ _ ne4, Below.heap_setCell _ _ _ _ ne4]; exact x5
          have ht : w5.heap.size ≤ wr.heap.size ∨ w5.heap[wr.heap.size]? = some (.cells #[.slice none 0 0, .int .i64 0, .int .i64 0] 37 (0, 0)) := .inr x6
          obtain ⟨⟨u0, u1, u2⟩, u3, u4, u5⟩ := cell3 y6
          obtain ⟨⟨v0, v1, v2⟩, v3, v4, v5⟩ := cell3 q6
          have hn5 := doA_range dk dN
          have hn6 := R.out.n0
          have hn7 := R.out.nk
          have hn8 := R.out.c0
          have hn9 := R.out.ck
          have hw6 : 0 ≤ max dwh 0 % 1073741824 ∧ max dwh 0 % 1073741824 ≤ 1073741824 := by omega
          have x7 := put3 q6 (.slice A5 D.length cap5) (.int .i64 (cnt + RingDo.doA dk dN)) (.int .i64 2)
          have o7 : Only (fun j => j = q ∨ j = wr.heap.size) w5 ((((((w5.setCell ⟨wr.heap.size, 0, none⟩ (.slice A5 D.length cap5)).setCell ⟨wr.heap.size, 1, none⟩ (.int .i64 (cnt + RingDo.doA dk dN))).setCell ⟨wr.heap.size, 2, none⟩ (.int .i64 2)).setCell ⟨q, 0, none⟩ (.slice A5 D.length cap5)).setCell ⟨q, 1, none⟩ (.int .i64 (cnt + RingDo.doA dk dN))).setCell ⟨q, 2, none⟩ (.int .i64 2)) :=
            ((((((refl (fun j => j = q ∨ j = wr.heap.size) w5).setCell (p := ⟨wr.heap.size, 0, none⟩) (fun _ => .inr rfl) (.slice A5 D.length cap5)).setCell (p := ⟨wr.heap.size, 1, none⟩) (fun _ => .inr rfl) (.int .i64 (cnt + RingDo.doA dk dN))).setCell (p := ⟨wr.heap.size, 2, none⟩) (fun _ => .inr rfl) (.int .i64 2)).setCell (p := ⟨q, 0, none⟩) (fun _ => .inl rfl) _).setCell (p := ⟨q, 1, none⟩) (fun _ => .inl rfl) _).setCell (p := ⟨q, 2, none⟩) (fun _ => .inl rfl) _
          have fin := Lib.hid (Round.step (k := k) R.out m5 r5 ap5 (doC_range R.out.hC _ _ _ _ _ _ _ _ _ _ _ hw6) ((doC_length _ _ _ _ _ _ _ _ _ _ _ _ _).trans R.out.dl) (doC_range R.out.hD _ _ _ _ _ _ _ _ _ _ _ hw6) x5 B5 (by omega) (by omega) (by omega) (by omega) ht (by omega) o7 x7)
          have ok5 := Lib.hid ok5
          clear m5 r5 ap5 o5 x5 o7 x7 ht y6 q6
          have hst0 := (stays (X := C2) (D := D) (k := dk) (what := max dwh 0 % 1073741824) (a0 := da0) (a1 := da1) (a2 := da2) (d0 := dd0) (d1 := dd1) (d2 := dd2) (raw := draw) (odd := dodd) (q := 1 + n) (by omega) hel.out 0 (.inl rfl)).trans hr0.out
          have hst1 := (stays (X := C2) (D := D) (k := dk) (what := max dwh 0 % 1073741824) (a0 := da0) (a1 := da1) (a2 := da2) (d0 := dd0) (d1 := dd1) (d2 := dd2) (raw := draw) (odd := dodd) (q := 1 + n) (by omega) hel.out 1 (.inr rfl)).trans hr1.out
          have hst := Lib.hid (And.intro hst0 hst1)
          clear hst0 hst1
          go_wp2
          go_roundw
          case rel => exact ⟨k + 1, _, _, _, _, _, by omega, by omega, by go_num, hst.out.1, hst.out.2, fin⟩
          case measure => simp [intOf]; omega
      · have fin : RingRan.Round wA b p q 100 (k + 1) v (.slice A1 D.length cap1) C2 D n2 cnt wr := by
          have r := R.out
          have := r.nk
          have := r.ck
          exact ⟨r.log, r.hC, r.ref, r.dl, r.hD, r.ap, r.x, r.qB, r.n0, by omega, r.c0, by omega, r.bel⟩
        have fin := Lib.hid fin
        go_wp2
        go_roundw
        case rel => exact ⟨k + 1, _, _, _, _, _, by omega, by omega, by go_num, hr0.out, hr1.out, fin⟩
        case measure => simp [intOf]; omega
    · have hcond : (decide ((k : Int) < es.length) = true ∧ decide ((k : Int) < 60) = false) ∨ decide ((k : Int) < es.length) = false := by
        by_cases h : k < es.length
        · exact .inl ⟨by simp; omega, by simp; omega⟩
        · exact .inr (by simp; omega)
      have l6 := R.out.log
      have hC6 := R.out.hC
      have hn6 := R.out.n0
      have hn7 := R.out.nk
      have B6 := R.out.bel
      have s6 := B6.size
      have B6 := Lib.hid B6
      have q0 := look_congr hr0.out
      have q1 := look_congr hr1.out
      have q0 := Lib.hid q0
      have q1 := Lib.hid q1
      obtain ⟨e1, e2, e3, e4, e5, e6⟩ := Z.out
      have E := Lib.hid (And.intro e1 (And.intro e2 (And.intro e3 (And.intro e4 (And.intro e5 e6)))))
      clear e1 e2 e3 e4 e5 e6 R hr0 hr1 Z
      rcases hcond with ⟨b1, b2⟩ | b1
      all_goals
        go_wp2_with (refine (RingNew.slot l6 hC6 (1 + n) (by omega) (by omega)).mono ?_)
        all_goals
          rintro e w7 ⟨rfl, l7, o7⟩
          rw [q0.out.1, q0.out.2.1, q0.out.2.2, E.out.1, E.out.2.1, E.out.2.2.1]
          have B7 := Lib.hid (B6.out.trans (footL l6 o7 s6))
          have s7 := B7.out.size
          clear o7
          go_wp2_with fail
          have hA := RingRan.asks_range (1 + n)
          refine (RingNew.done l7 hC6 (1 + n) (by omega) (by omega)).mono ?_
          rintro e w8 ⟨rfl, l8, o8⟩
          rw [q1.out.1, q1.out.2.1, q1.out.2.2, E.out.2.2.2.1, E.out.2.2.2.2.1, E.out.2.2.2.2.2]
          have B8 := Lib.hid (B7.out.trans (footL l7 o8 s7))
          have fin := Lib.hid (BA.out.trans (B8.out.mono BA.out.size))
          clear o8 l8 l7
          go_wp2
          go_ret
          exact ⟨rfl, fin.out⟩
end Go.Proofs.Ytllibgjajlgnbab.WalkRingStays
