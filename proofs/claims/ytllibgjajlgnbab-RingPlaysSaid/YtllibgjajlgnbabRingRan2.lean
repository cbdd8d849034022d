/- A log behind deeds. Laid by genranring.py. -/
import Derived.Test.YtllibgjajlgnbabRingAwake
namespace Go.Proofs.Ytllibgjajlgnbab.RingRan
open Go Go.RowKit Go.Proofs.Ytllibgjajlgnbab.Only Go.Proofs.Ytllibgjajlgnbab.Mem Go.Proofs.Ytllibgjajlgnbab.New Go.Proofs.Ytllibgjajlgnbab.Ref Go.Proofs.Ytllibgjajlgnbab.Ring Go.Proofs.Ytllibgjajlgnbab.RingRef Go.Proofs.Ytllibgjajlgnbab.RingDo Go.Proofs.Ytllibgjajlgnbab.Args
set_option linter.unusedVariables false
set_option linter.unusedSimpArgs false

/-- The cells of two slots made, as the reference's Mem. -/
theorem two (w : World) {B : Nat} (hB : B ≤ w.heap.size) : RefAt B (.slice (some ⟨w.heap.size, 0, none⟩) 2 2) (List.replicate 2 0) (w.alloc (.cells (madeCells #[.int .u64 0] 2) 28)) := by
  refine ⟨?_, by simp, by simp⟩
  have h := World.ownsRow_lit (base := B) w (madeCells #[.int .u64 0] 2) (size := 1) (e := 28) 2 hB (by simp [maxLen]) (by rw [size_madeCells])
  rw [toList_madeCells_one] at h
  simpa using h

/-- The start: the log made, the reference's in a new block. -/
theorem Round.start {W w2 w3 w4 : World} {b p : Nat} (M : Nat) {v s : Value} {C : List Int} {n : Int} (l2 : LogAt W.heap.size b p v C n w2) (hC : ∀ x ∈ C, 0 ≤ x ∧ x ≤ 18446744073709551615) (n0 : 0 ≤ n) (nM : n ≤ M) (B2 : Below W.heap.size W w2) {u0 u1 : Value} (b3 : Below w2.heap.size w2 w3) (h4 : RefNext W.heap.size u0 s (List.replicate 35 0) w3 w4) (h0 : ∀ j, u0.ownBlock = some j → w2.heap.size ≤ j) :
    Round W b p w4.heap.size M 0 v s C (List.replicate 35 0) n 0 (w4.alloc (.cells #[s, .int .i64 0, .int .i64 2] 37)) := by
  have r0 : ∀ x ∈ List.replicate 35 (0 : Int), 0 ≤ x ∧ x ≤ 18446744073709551615 := RingAwake.r0
  have l3 := RingHead.LogAt.below l2 b3
  have l4 := RingHead.LogAt.below l3 h4.bel
  have s3 := b3.size
  have s4 := h4.bel.size
  refine ⟨RingHead.LogAt.below l4 (al _ _), hC, h4.ref.below (al _ _), by simp, r0, fun j hj => ?_, new3 _ _ _ _ _, ?_, n0, by omega, by omega, by omega, ?_⟩
  · have hlow := RingPub.foot_lt' l2.mem
    refine hlow j ?_
    rcases h4.new with e | e
    · rw [e] at hj; exact h0 j hj
    · have := e j hj; omega
  · have := B2.size; omega
  · have := B2.size
    exact ((B2.trans (b3.mono this)).trans (h4.bel.mono (by omega))).trans ((al _ _).mono (by omega))

/-- What ran leaves. -/
def RanTo (W : World) (e : Ending) (w' : World) : Prop :=
  ∃ b p v C n, e = .returned (.pointer (some ⟨b, 0, none⟩)) ∧ LogAt W.heap.size b p v C n w' ∧ (∀ x ∈ C, 0 ≤ x ∧ x ≤ 18446744073709551615) ∧ 0 ≤ n ∧ n ≤ 60 ∧ Below W.heap.size W w'

set_option maxHeartbeats 8000000 in
set_option maxRecDepth 100000 in
theorem ran (V : Value) (ds : List (List Value)) (W : World) (hV : StructsV ks11 W V ds) :
    Calls Try.prog 14 #[V] W (RanTo W) := by
  obtain ⟨A, cap, rfl, hl, -⟩ := hV.shape
  unfold maxLen at hl
  have hV := Lib.hid hV
  have hmk : ∀ w : World, (Instr.makeSlice 33 (.int .i64 2) (.int .i64 2)).run Try.prog w = .ok (.slice (some ⟨w.heap.size, 0, none⟩) 2 2) (w.alloc (.cells (madeCells #[.int .u64 0] 2) 28)) := run_make_row' (P := Try.prog) 33 28 (.int .u64 0) 8 Try.underlying33 info_u64 rfl .i64 .i64 2 (by omega) (by omega)
  go_enter Try.func14, Try.ntmps14
  go_wp2_with fail
  refine (New.new 2 (by omega) W).mono ?_
  rintro e w1 ⟨p, v, rfl, h1, hb1⟩
  have s1 := hb1.size
  have hb1 := Lib.hid hb1
  go_wp2_with fail
  refine (RingNew.new h1 s1).mono ?_
  rintro e w2 ⟨b, v2, rfl, l2, hb2⟩
  have B2 := Lib.hid (hb1.out.trans hb2)
  have s2 := B2.out.size
  have l2 := Lib.hid l2
  clear h1 hb2 hb1
  go_wp2_with fail
  refine (RingRef.new _ _ W.heap.size (two w2 s2) (by simp; omega)).mono ?_
  rintro e w4 ⟨s', rfl, h4⟩
  obtain ⟨A4, cap4, hs4, hcap4⟩ := own_any h4.ref.own
  rw [show (List.replicate 35 (0:Int)).length = 35 by simp] at hs4
  subst hs4
  have R := Lib.hid (Round.start 0 l2.out RingAwake.r0 (by omega) (by omega) B2.out (u1 := .int .i64 0) (al _ _) h4 (fun j hj => by simp [Value.ownBlock] at hj; omega))
  clear h4
  go_wp2_with fail
  generalize (w4.alloc (.cells #[.slice A4 35 cap4, .int .i64 0, .int .i64 2] 37)) = w5 at *
  generalize w4.heap.size = q at *
  go_loopw [6] (fun i wr => ∃ k s C D n cnt, k ≤ ds.length ∧ k ≤ 60 ∧ i = .int .i64 k ∧ Hid (Round W b p q 0 k v2 s C D n cnt wr))
    (fun i _ => 60 - (intOf i).toNat)
  case atStart => exact ⟨0, _, _, _, 0, 0, by omega, by omega, rfl, R⟩
  case round =>
    clear R
    obtain ⟨k, s, C, D, n, cnt, hk, hk60, rfl, R⟩ := hrel
    obtain ⟨A1, cap1, hs1, hcap1⟩ := own_any R.out.ref.own
    subst hs1
    obtain ⟨⟨a0, a1, a2⟩, a3, a4, a5⟩ := cell3 R.out.x
    by_cases hlt : k < ds.length ∧ k < 60
    · obtain ⟨hlt, hlt60⟩ := hlt
      obtain ⟨x, rfl, dOk, hdc⟩ := deedCells hV.out hlt
      generalize deedOf (ds.getD k []) = dd at *
      obtain ⟨dk, dN, dwh, da0, da1, da2, dd0, dd1, dd2, draw, dodd⟩ := dd
      dsimp only at hdc
      have b1 : decide ((k : Int) < ds.length) = true := by simp; omega
      have b2 : decide ((k : Int) < 60) = true := by simp; omega
      have hOk := Lib.hid dOk
      have hxb := (hdc W (Below.refl _ _)).2
      have hcell := Lib.hid (fun w' hb => (hdc w' hb).1)
      clear hdc dOk
      obtain ⟨f0, f1, f2, f3, f4, f5, f6, f7, f8, f9, f10⟩ := hcell.out wr R.out.bel
      go_wp2_with fail
      have Rd := Lib.hid R.out.drew
      have Rd2 := Lib.hid (R.out.next (al wr (.cells #[.slice none 0 0, .int .i64 0, .int .i64 0] 37))).drew
      have hqw := lt_of_heap R.out.x
      have hWw := R.out.bel.size
      have ne1 : ¬ wr.heap.size = q := by omega
      have ne2 : ¬ wr.heap.size = (x.add (k * 11)).block := by rw [add_block]; omega
      have ne3 : ∀ o, ¬ (⟨wr.heap.size, o, none⟩ : Addr) = x.add (k * 11) := fun o e => ne2 (by rw [← e])
      have ne4 : ¬ q = wr.heap.size := by omega
      have ne5 : ¬ (x.add (k * 11)).block = wr.heap.size := fun e => ne2 e.symm
      have ne6 : ∀ o, ¬ x.add (k * 11) = (⟨wr.heap.size, o, none⟩ : Addr) := fun o e => ne3 o e.symm
      go_wp2_with fail
      go_region_held3 (fun w' => w'.cell? ⟨q, 0, none⟩ = some (.slice A1 D.length cap1) ∧ w'.cell? ⟨q, 1, none⟩ = some (.int .i64 cnt) ∧ w'.cell? ⟨q, 2, none⟩ = some (.int .i64 2) ∧ w'.cell? (x.add (k * 11)) = some (.int .i64 dk) ∧ w'.cell? ⟨(x.add (k * 11)).block, (x.add (k * 11)).off + 1, none⟩ = some (.int .i64 dN) ∧ w'.cell? ⟨(x.add (k * 11)).block, (x.add (k * 11)).off + 2, none⟩ = some (.int .i64 dwh) ∧ w'.cell? ⟨(x.add (k * 11)).block, (x.add (k * 11)).off + 3, none⟩ = some (.int .i64 da0) ∧ w'.cell? ⟨(x.add (k * 11)).block, (x.add (k * 11)).off + 4, none⟩ = some (.int .i64 da1) ∧ w'.cell? ⟨(x.add (k * 11)).block, (x.add (k * 11)).off + 5, none⟩ = some (.int .i64 da2) ∧ w'.cell? ⟨(x.add (k * 11)).block, (x.add (k * 11)).off + 6, none⟩ = some (.int .i64 dd0) ∧ w'.cell? ⟨(x.add (k * 11)).block, (x.add (k * 11)).off + 7, none⟩ = some (.int .i64 dd1) ∧ w'.cell? ⟨(x.add (k * 11)).block, (x.add (k * 11)).off + 8, none⟩ = some (.int .i64 dd2) ∧ w'.cell? ⟨(x.add (k * 11)).block, (x.add (k * 11)).off + 9, none⟩ = some (.int .u64 draw) ∧ w'.cell? ⟨(x.add (k * 11)).block, (x.add (k * 11)).off + 10, none⟩ = some (.bool dodd))
        (first | go_keep | exact S5)
        (first
          | (go_at_call 19 ; refine (deed Rd.out.log Rd.out.hC (by have := Rd.out.n0 ; have := Rd.out.nk ; omega) _ D Rd.out.ref Rd.out.dl Rd.out.hD Rd.out.ap Rd.out.bel.size cnt (by have := Rd.out.c0 ; have := Rd.out.ck ; omega) dk dN dwh da0 da1 da2 dd0 dd1 dd2 draw dodd hOk.out).mono ?_ ; rintro e w5 ⟨s', ok, rfl, m5, r5, ap5, o5, ok5⟩ ; obtain ⟨A5, cap5, hs5, hcap5⟩ := own_any r5.own ; have hl5 := doC_length D D dk dN (max dwh 0 % 1073741824) da0 da1 da2 dd0 dd1 dd2 draw dodd ; rw [hl5] at hs5 ; subst hs5 ; have x5 := (o5.block _ (lt_of_heap Rd.out.x) (apartL Rd.out.log Rd.out.ref (.inr Rd.out.x)).1).trans Rd.out.x ; obtain ⟨⟨y0, y1, y2⟩, y3, y4, y5⟩ := cell3 x5 ; have B5 := Rd.out.bel.trans (footL Rd.out.log o5 Rd.out.bel.size) ; have S5 := And.intro y0 (And.intro y1 (And.intro y2 (hcell.out w5 B5))) ; have K5 := Lib.hid (And.intro m5 (And.intro r5 (And.intro ap5 (And.intro o5 (And.intro ok5 (And.intro x5 B5)))))) ; clear m5 r5 ap5 o5 x5 B5 hl5 ok5)
          | (go_at_call 19 ; refine (deed Rd2.out.log Rd2.out.hC (by have := Rd2.out.n0 ; have := Rd2.out.nk ; omega) _ D Rd2.out.ref Rd2.out.dl Rd2.out.hD Rd2.out.ap Rd2.out.bel.size cnt (by have := Rd2.out.c0 ; have := Rd2.out.ck ; omega) dk dN dwh da0 da1 da2 dd0 dd1 dd2 draw dodd hOk.out).mono ?_ ; rintro e w5 ⟨s', ok, rfl, m5, r5, ap5, o5, ok5⟩ ; obtain ⟨A5, cap5, hs5, hcap5⟩ := own_any r5.own ; have hl5 := doC_length D D dk dN (max dwh 0 % 1073741824) da0 da1 da2 dd0 dd1 dd2 draw dodd ; rw [hl5] at hs5 ; subst hs5 ; have x5 := (o5.block _ (lt_of_heap Rd2.out.x) (apartL Rd2.out.log Rd2.out.ref (.inr Rd2.out.x)).1).trans Rd2.out.x ; obtain ⟨⟨y0, y1, y2⟩, y3, y4, y5⟩ := cell3 x5 ; have B5 := Rd2.out.bel.trans (footL Rd2.out.log o5 Rd2.out.bel.size) ; have S5 := And.intro y0 (And.intro y1 (And.intro y2 (hcell.out w5 B5))) ; have x6 := (o5.block wr.heap.size (by simp) (RingPub.foot_lt' R.out.log.mem _ (Nat.le_refl _))).trans (new3 wr (.slice none 0 0) (.int .i64 0) (.int .i64 0) 37) ; obtain ⟨⟨t0, t1, t2⟩, t3, t4, t5⟩ := cell3 x6 ; have K5 := Lib.hid (And.intro m5 (And.intro r5 (And.intro ap5 (And.intro o5 (And.intro ok5 (And.intro x5 B5)))))) ; clear m5 r5 ap5 o5 x5 B5 hl5 ok5))
      · obtain ⟨m5, r5, ap5, o5, ok5, x5, B5⟩ := K5.out
        have y6 := new3 w5 (.slice A5 D.length cap5) (.int .i64 (cnt + RingDo.doA dk dN)) (.int .i64 2) 37
        have q6 := (heap_alloc_old w5 (.cells #[(.slice A5 D.length cap5), (.int .i64 (cnt + RingDo.doA dk dN)), .int .i64 2] 37) (lt_of_heap x5)).trans x5
        have ht : w5.heap.size ≤ w5.heap.size ∨ w5.heap[w5.heap.size]? = some (.cells #[] 37 (0, 0)) := .inl (Nat.le_refl _)
        have hB5 := B5.size
        have hq5 := lt_of_heap x5
        have ne7 : ¬ w5.heap.size = q := by omega
        have ne8 : ¬ q = w5.heap.size := by omega
        obtain ⟨⟨u0, u1, u2⟩, u3, u4, u5⟩ := cell3 y6
        obtain ⟨⟨v0, v1, v2⟩, v3, v4, v5⟩ := cell3 q6
        have hn5 := doA_range dk dN
        have hn6 := R.out.n0
        have hn7 := R.out.nk
        have hn8 := R.out.c0
        have hn9 := R.out.ck
        have hw6 : 0 ≤ max dwh 0 % 1073741824 ∧ max dwh 0 % 1073741824 ≤ 1073741824 := by omega
        have x7 := (heap_alloc_old (((w5.setCell ⟨q, 0, none⟩ (.slice A5 D.length cap5)).setCell ⟨q, 1, none⟩ (.int .i64 (cnt + RingDo.doA dk dN))).setCell ⟨q, 2, none⟩ (.int .i64 2)) (.cells #[(.slice A5 D.length cap5), (.int .i64 (cnt + RingDo.doA dk dN)), .int .i64 2] 37) (by simpa [World.setCell] using hq5)).trans (put3 x5 (.slice A5 D.length cap5) (.int .i64 (cnt + RingDo.doA dk dN)) (.int .i64 2))
        have o7 : Only (fun j => j = q ∨ j = w5.heap.size) w5 ((((w5.setCell ⟨q, 0, none⟩ (.slice A5 D.length cap5)).setCell ⟨q, 1, none⟩ (.int .i64 (cnt + RingDo.doA dk dN))).setCell ⟨q, 2, none⟩ (.int .i64 2)).alloc (.cells #[(.slice A5 D.length cap5), (.int .i64 (cnt + RingDo.doA dk dN)), .int .i64 2] 37)) :=
          ((((refl (fun j => j = q ∨ j = w5.heap.size) w5).setCell (p := ⟨q, 0, none⟩) (fun _ => .inl rfl) _).setCell (p := ⟨q, 1, none⟩) (fun _ => .inl rfl) _).setCell (p := ⟨q, 2, none⟩) (fun _ => .inl rfl) _).alloc _
        have fin := Lib.hid (Round.step (k := k) R.out m5 r5 ap5 (doC_range R.out.hC _ _ _ _ _ _ _ _ _ _ _ hw6) ((doC_length _ _ _ _ _ _ _ _ _ _ _ _ _).trans R.out.dl) (doC_range R.out.hD _ _ _ _ _ _ _ _ _ _ _ hw6) x5 B5 (by omega) (by omega) (by omega) (by omega) ht (by omega) o7 x7)
        have ok5 := Lib.hid ok5
        clear m5 r5 ap5 o5 x5 o7 x7 ht y6 q6
        go_wp2
        go_roundw
        case rel => exact ⟨k + 1, _, _, _, _, _, by omega, by omega, by go_num, fin⟩
        case measure => simp [intOf]; omega
      · obtain ⟨m5, r5, ap5, o5, ok5, x5, B5⟩ := K5.out
        have y6 := put3 x6 (.slice A5 D.length cap5) (.int .i64 (cnt + RingDo.doA dk dN)) (.int .i64 2)
        have q6 : (((w5.setCell ⟨wr.heap.size, 0, none⟩ (.slice A5 D.length cap5)).setCell ⟨wr.heap.size, 1, none⟩ (.int .i64 (cnt + RingDo.doA dk dN))).setCell ⟨wr.heap.size, 2, none⟩ (.int .i64 2)).heap[q]? = some (.cells #[.slice A1 D.length cap1, .int .i64 cnt, .int .i64 2] 37 (0, 0)) := by
          rw [Below.heap_setCell _ _ _ _ ne4, Below.heap_setCell _ _ _ _ ne4, Below.heap_setCell _ _ _ _ ne4]; exact x5
        have ht : w5.heap.size ≤ wr.heap.size ∨ w5.heap[wr.heap.size]? = some (.cells #[.slice none 0 0, .int .i64 0, .int .i64 0] 37 (0, 0)) := .inr x6
        obtain ⟨⟨u0, u1, u2⟩, u3, u4, u5⟩ := cell3 y6
        obtain ⟨⟨v0, v1, v2⟩, v3, v4, v5⟩ := cell3 q6
        have hn5 := doA_range dk dN
        have hn6 := R.out.n0
        have hn7 := R.out.nk
        have hn8 := R.out.c0
        have hn9 := R.out.ck
        have hw6 : 0 ≤ max dwh 0 % 1073741824 ∧ max dwh 0 % 1073741824 ≤ 1073741824 := by omega
        have x7 := put3 q6 (.slice A5 D.length cap5) (.int .i64 (cnt + RingDo.doA dk dN)) (.int .i64 2)
        have o7 : Only (fun j => j = q ∨ j = wr.heap.size) w5 ((((((w5.setCell ⟨wr.heap.size, 0, none⟩ (.slice A5 D.length cap5)).setCell ⟨wr.heap.size, 1, none⟩ (.int .i64 (cnt + RingDo.doA dk dN))).setCell ⟨wr.heap.size, 2, none⟩ (.int .i64 2)).setCell ⟨q, 0, none⟩ (.slice A5 D.length cap5)).setCell ⟨q, 1, none⟩ (.int .i64 (cnt + RingDo.doA dk dN))).setCell ⟨q, 2, none⟩ (.int .i64 2)) :=
          ((((((refl (fun j => j = q ∨ j = wr.heap.size) w5).setCell (p := ⟨wr.heap.size, 0, none⟩) (fun _ => .inr rfl) (.slice A5 D.length cap5)).setCell (p := ⟨wr.heap.size, 1, none⟩) (fun _ => .inr rfl) (.int .i64 (cnt + RingDo.doA dk dN))).setCell (p := ⟨wr.heap.size, 2, none⟩) (fun _ => .inr rfl) (.int .i64 2)).setCell (p := ⟨q, 0, none⟩) (fun _ => .inl rfl) _).setCell (p := ⟨q, 1, none⟩) (fun _ => .inl rfl) _).setCell (p := ⟨q, 2, none⟩) (fun _ => .inl rfl) _
        have fin := Lib.hid (Round.step (k := k) R.out m5 r5 ap5 (doC_range R.out.hC _ _ _ _ _ _ _ _ _ _ _ hw6) ((doC_length _ _ _ _ _ _ _ _ _ _ _ _ _).trans R.out.dl) (doC_range R.out.hD _ _ _ _ _ _ _ _ _ _ _ hw6) x5 B5 (by omega) (by omega) (by omega) (by omega) ht (by omega) o7 x7)
        have ok5 := Lib.hid ok5
        clear m5 r5 ap5 o5 x5 o7 x7 ht y6 q6
        go_wp2
        go_roundw
        case rel => exact ⟨k + 1, _, _, _, _, _, by omega, by omega, by go_num, fin⟩
        case measure => simp [intOf]; omega
    · have fin : RanTo W (.returned (.pointer (some ⟨b, 0, none⟩))) wr := ⟨b, p, v2, C, n, rfl, R.out.log, R.out.hC, R.out.n0, by have := R.out.nk; omega, R.out.bel⟩
      have fin := Lib.hid fin
      by_cases hlt2 : k < ds.length
      · have b1 : decide ((k : Int) < ds.length) = true := by simp; omega
        have b2 : decide ((k : Int) < 60) = false := by simp; omega
        go_wp2
        go_ret
        exact fin.out
      · have b1 : decide ((k : Int) < ds.length) = false := by simp; omega
        go_wp2
        go_ret
        exact fin.out
end Go.Proofs.Ytllibgjajlgnbab.RingRan
