/- MemCounts: the walk. Laid by gencounts.py. -/
import Derived.Test.YtllibgjajlgnbaaLawKit
import Derived.Deep.QuietTactic
import Derived.BigQuiet
namespace Go.Proofs.Ytllibgjajlgnbaa.WalkMemCounts
open Go Go.RowKit Go.Proofs.Ytllibgjajlgnbaa.Only Go.Proofs.Ytllibgjajlgnbaa.Mem Go.Proofs.Ytllibgjajlgnbaa.New Go.Proofs.Ytllibgjajlgnbaa.Args Go.Proofs.Ytllibgjajlgnbaa.LawKit
set_option linter.unusedVariables false
set_option linter.unusedSimpArgs false

theorem doN_there {C : List Int} {k a : Int} (n : Int) (h0 : 0 ≤ a) (h1 : a < C.length) (h2 : 1 ≤ k) (h3 : k ≤ 4) : Do.doN C k a n = n + 1 := by
  unfold Do.doN hit
  rw [if_pos (by omega), if_pos (inR_true.2 ⟨h0, h1⟩)]
theorem doN_not {C : List Int} {k a : Int} (n : Int) (h : ¬ (0 ≤ a ∧ a < C.length ∧ 1 ≤ k ∧ k ≤ 4)) : Do.doN C k a n = n := by
  unfold Do.doN hit
  split
  · have hn : ¬ (inR C a = true) := fun e => h ⟨(inR_true.1 e).1, (inR_true.1 e).2, by omega, by omega⟩
    rw [if_neg hn]; omega
  · rfl

set_option maxHeartbeats 16000000 in
set_option maxRecDepth 100000 in
theorem walk (V : Value) (ds : List (List Int)) (dk da dold dx : Int) (hk : -9223372036854775808 ≤ dk ∧ dk ≤ 9223372036854775807) (hd : -9223372036854775808 ≤ da ∧ da ≤ 9223372036854775807) (ho : 0 ≤ dold ∧ dold ≤ 18446744073709551615) (hdx : 0 ≤ dx ∧ dx ≤ 18446744073709551615) (W : World) (hV : Structs [.i64, .i64, .u64, .u64] W V ds) :
    Calls Try.prog 6 #[V, .agg #[.int .i64 dk, .int .i64 da, .int .u64 dold, .int .u64 dx]] W fun e w' => e = .returned (.bool true) ∧ Below W.heap.size W w' := by
  have hV := Lib.hid hV
  go_enter Try.func6, Try.ntmps6
  go_wp2_with fail
  have hb0 : Below W.heap.size W (W.alloc (.cells #[.int .i64 dk, .int .i64 da, .int .u64 dold, .int .u64 dx] 34)) := (Below.refl _ _).alloc (Nat.le_refl _) _
  have hx := heap_alloc_new W (.cells #[.int .i64 dk, .int .i64 da, .int .u64 dold, .int .u64 dx] 34)
  have hs0 : (W.alloc (.cells #[.int .i64 dk, .int .i64 da, .int .u64 dold, .int .u64 dx] 34)).heap.size = W.heap.size + 1 := by simp
  have hb0 := Lib.hid hb0
  generalize (W.alloc (.cells #[.int .i64 dk, .int .i64 da, .int .u64 dold, .int .u64 dx] 34)) = w0 at *
  have hx := Lib.hid hx
  refine (New.awake w0).mono ?_
  rintro e w1 ⟨rfl, hb1⟩
  have hV1 := Lib.hid (structs_below hV.out (hb0.out.trans (hb1.mono hb0.out.size)))
  have far : ∀ w', Below w1.heap.size w1 w' → (w'.cell? ⟨W.heap.size, 0, none⟩ = some (.int .i64 dk) ∧ w'.cell? ⟨W.heap.size, 1, none⟩ = some (.int .i64 da) ∧ w'.cell? ⟨W.heap.size, 2, none⟩ = some (.int .u64 dold) ∧ w'.cell? ⟨W.heap.size, 3, none⟩ = some (.int .u64 dx)) ∧ Below W.heap.size W w' := by
    intro w' hb
    have hbb := hb1.trans (hb.mono hb1.size)
    exact ⟨Do.cell4 ((hbb.block W.heap.size (by omega)).trans hx.out), hb0.out.trans (hbb.mono hb0.out.size)⟩
  have hb1 := Lib.hid hb1
  have far := Lib.hid far
  go_wp2_with fail
  refine (Ran.ran V ds w1 hV1.out).mono ?_
  rintro e w2 ⟨p, v, C, n, rfl, h2, h8, hm, hn0, hn60, hb2⟩
  have h2 := Lib.hid h2
  have hb2 := Lib.hid hb2
  go_wp2_with fail
  refine (Mem.count h2.out).mono ?_
  rintro e w3 ⟨rfl, hw3⟩
  have h3 : MemAt w1.heap.size p v C n w3 := by rw [← hw3]; exact h2.out
  have hb3 : Below w1.heap.size w1 w3 := by rw [← hw3]; exact hb2.out
  clear hw3 h2 hb2
  have h3 := Lib.hid h3
  have hb3 := Lib.hid hb3
  obtain ⟨⟨c0, c1, c2, c3⟩, hW3⟩ := far.out w3 hb3.out
  clear hW3
  have h3d : MemAt w1.heap.size p v C n w3.drew := ⟨h3.out.base, h3.out.blk, h3.out.own, h3.out.ne⟩
  have hb3d := hb3.out.drew
  obtain ⟨⟨p0, p1, p2, p3⟩, _⟩ := far.out w3.drew hb3d
  have hmk := run_make_row' (P := Try.prog) 22 26 (.int .u64 0) 8 Try.underlying22 info_u64 rfl .i64 .i64 C.length (by omega) (by omega)
  have hq : ∀ nq, MemAt w1.heap.size p v C n (w3.drewN nq) := fun nq => ⟨h3.out.base, h3.out.blk, h3.out.own, h3.out.ne⟩
  have hbq : ∀ nq, Below w1.heap.size w1 (w3.drewN nq) := fun nq => ⟨hb3.out.os, hb3.out.tape, hb3.out.output, hb3.out.size, hb3.out.block⟩
  have hq := Lib.hid hq
  have hbq := Lib.hid hbq
  have h3d := Lib.hid h3d
  have hb3d := Lib.hid hb3d
  have hl5 := Ran.doC_length C dk da dold dx h8 hm
  by_cases t0 : 0 ≤ da
  · have g0 : decide (0 ≤ da) = true := by simpa using t0
    by_cases t1 : da < C.length
    · have g1 : decide (da < (C.length : Int)) = true := by simpa using t1
      by_cases t2 : 1 ≤ dk
      · have g2 : decide (1 ≤ dk) = true := by simpa using t2
        by_cases t3 : dk ≤ 4
        · have g3 : decide (dk ≤ 4) = true := by simpa using t3
          go_wp2_with fail
          go_region_held3 (fun w' => w'.cell? ⟨W.heap.size, 0, none⟩ = some (.int .i64 dk) ∧ w'.cell? ⟨W.heap.size, 1, none⟩ = some (.int .i64 da) ∧ w'.cell? ⟨W.heap.size, 2, none⟩ = some (.int .u64 dold) ∧ w'.cell? ⟨W.heap.size, 3, none⟩ = some (.int .u64 dx)) (first | go_keep)
            (first | (go_at_call 21 ; refine (Mem.len h3d.out).mono ?_ ; rintro e wl ⟨rfl, rfl⟩))
          go_wp2_with fail
          generalize w3.drew = w4 at *
          have h4d : MemAt w1.heap.size p v C n w4.drew := ⟨h3d.out.base, h3d.out.blk, h3d.out.own, h3d.out.ne⟩
          have hbx : Below w4.heap.size w4 (w4.alloc (.cells (madeCells #[.int .u64 0] C.length) 26)).drew := ((Below.refl _ _).alloc (Nat.le_refl _) _).drew
          have hmx := Lib.hid (h3d.out.below hbx)
          have hr : Ref.RefAt w1.heap.size (.slice (some ⟨w4.heap.size, 0, none⟩) C.length C.length) (List.replicate C.length 0) (w4.alloc (.cells (madeCells #[.int .u64 0] C.length) 26)).drew := by
            refine Ref.RefAt.drew ⟨?_, by simpa using hm, by simp; omega⟩
            have h := World.ownsRow_lit (base := w1.heap.size) w4 (madeCells #[.int .u64 0] C.length) (size := 1) (e := 26) C.length hb3d.out.size (by simp [maxLen]; omega) (by rw [size_madeCells]; omega)
            rw [toList_madeCells_one] at h
            simpa using h
          have hap : Do.Apart p v (.slice (some ⟨w4.heap.size, 0, none⟩) C.length C.length) := by
            intro k hk
            have e : w4.heap.size = k := by simpa [Value.ownBlock] using hk
            have hl := Do.foot_lt h3d.out
            exact ⟨fun hh => hl k (by omega) (.inl hh), fun hh => hl k (by omega) (.inr hh)⟩
          have h4d := Lib.hid h4d
          have hr := Lib.hid hr
          have hap := Lib.hid hap
          have hbx := Lib.hid hbx
          go_region_held3 (fun w' => w'.cell? ⟨W.heap.size, 0, none⟩ = some (.int .i64 dk) ∧ w'.cell? ⟨W.heap.size, 1, none⟩ = some (.int .i64 da) ∧ w'.cell? ⟨W.heap.size, 2, none⟩ = some (.int .u64 dold) ∧ w'.cell? ⟨W.heap.size, 3, none⟩ = some (.int .u64 dx)) (first | go_keep | exact S5)
            (first
              | (go_at_call 21 ; refine (Mem.len h4d.out).mono ?_ ; rintro e wl ⟨rfl, rfl⟩)
              | (go_at_call 18 ; refine (Ran.deed hmx.out hm hr.out hap.out (by have := hb3d.out.size ; simp ; omega) 0 dk da dold dx hd ?_).mono ?_ ; (omega) ; rintro e w5 ⟨v', s', cnt', D', ok, rfl, m5, r5, ap5, o5, hv5⟩ ; have B5 := hb3d.out.trans ((hbx.out.mono hb3d.out.size).trans (footB hmx.out o5 (by have := hb3d.out.size ; simp ; omega))) ; obtain ⟨S5, hW5⟩ := far.out w5 B5 ; have K5 := Lib.hid (And.intro m5 (And.intro B5 S5)) ; clear m5 r5 ap5 o5 hv5 B5 hW5))
          obtain ⟨m5, B5, c0, c1, c2, c3⟩ := K5.out
          rw [doN_there n t0 t1 t2 t3] at m5
          have m5 := Lib.hid m5
          have B5 := Lib.hid B5
          generalize Do.doC C dk da dold dx = C5 at *
          go_wp2_with fail
          refine (Mem.peek m5.out da hd (by omega)).mono ?_
          rintro e w6 ⟨rfl, h6, ho6⟩
          have B6 := Lib.hid (B5.out.trans (footB m5.out ho6 B5.out.size))
          have h6 := Lib.hid h6
          obtain ⟨⟨c0, c1, c2, c3⟩, hW6⟩ := far.out w6 B6.out
          clear ho6 hW6
          go_wp2_with fail
          refine (Mem.count h6.out).mono ?_
          rintro e w7 ⟨rfl, hw7⟩
          have h7 := h6.out
          have B7 := B6.out
          rw [hw7] at h7 B7
          clear hw7 h6 B6
          have h7 := Lib.hid h7
          have B7 := Lib.hid B7
          obtain ⟨⟨c0, c1, c2, c3⟩, hW7⟩ := far.out w7 B7.out
          clear hW7
          go_wp2_with fail
          refine (Mem.load h7.out da hd (by omega)).mono ?_
          rintro e w8 ⟨rfl, h8', ho8⟩
          have B8 := B7.out.trans (footB h7.out ho8 B7.out.size)
          obtain ⟨_, hW8⟩ := far.out w8 B8
          have hW8 := Lib.hid hW8
          clear h8' ho8 B8
          go_wp2
          go_ret
          exact ⟨rfl, hW8.out⟩
        · have g3 : decide (dk ≤ 4) = false := by simp; omega
          go_wp2_with fail
          go_quiet ((go_at_call 21; exact Calls.quiet_of_same ((Mem.len (hq.out _)).mono fun _ _ h => ⟨h.1, h.2.symm⟩)))
          go_wp2_with fail
          replace h3d := Lib.hid (hq.out nq)
          replace hb3d := Lib.hid (hbq.out nq)
          clear hq hbq p0 p1 p2 p3
          obtain ⟨⟨p0, p1, p2, p3⟩, _⟩ := far.out (w3.drewN nq) hb3d.out
          generalize w3.drewN nq = w4 at *
          have h4d : MemAt w1.heap.size p v C n w4.drew := ⟨h3d.out.base, h3d.out.blk, h3d.out.own, h3d.out.ne⟩
          have hbx : Below w4.heap.size w4 (w4.alloc (.cells (madeCells #[.int .u64 0] C.length) 26)).drew := ((Below.refl _ _).alloc (Nat.le_refl _) _).drew
          have hmx := Lib.hid (h3d.out.below hbx)
          have hr : Ref.RefAt w1.heap.size (.slice (some ⟨w4.heap.size, 0, none⟩) C.length C.length) (List.replicate C.length 0) (w4.alloc (.cells (madeCells #[.int .u64 0] C.length) 26)).drew := by
            refine Ref.RefAt.drew ⟨?_, by simpa using hm, by simp; omega⟩
            have h := World.ownsRow_lit (base := w1.heap.size) w4 (madeCells #[.int .u64 0] C.length) (size := 1) (e := 26) C.length hb3d.out.size (by simp [maxLen]; omega) (by rw [size_madeCells]; omega)
            rw [toList_madeCells_one] at h
            simpa using h
          have hap : Do.Apart p v (.slice (some ⟨w4.heap.size, 0, none⟩) C.length C.length) := by
            intro k hk
            have e : w4.heap.size = k := by simpa [Value.ownBlock] using hk
            have hl := Do.foot_lt h3d.out
            exact ⟨fun hh => hl k (by omega) (.inl hh), fun hh => hl k (by omega) (.inr hh)⟩
          have h4d := Lib.hid h4d
          have hr := Lib.hid hr
          have hap := Lib.hid hap
          have hbx := Lib.hid hbx
          go_region_held3 (fun w' => w'.cell? ⟨W.heap.size, 0, none⟩ = some (.int .i64 dk) ∧ w'.cell? ⟨W.heap.size, 1, none⟩ = some (.int .i64 da) ∧ w'.cell? ⟨W.heap.size, 2, none⟩ = some (.int .u64 dold) ∧ w'.cell? ⟨W.heap.size, 3, none⟩ = some (.int .u64 dx)) (first | go_keep | exact S5)
            (first
              | (go_at_call 21 ; refine (Mem.len h4d.out).mono ?_ ; rintro e wl ⟨rfl, rfl⟩)
              | (go_at_call 18 ; refine (Ran.deed hmx.out hm hr.out hap.out (by have := hb3d.out.size ; simp ; omega) 0 dk da dold dx hd ?_).mono ?_ ; (omega) ; rintro e w5 ⟨v', s', cnt', D', ok, rfl, m5, r5, ap5, o5, hv5⟩ ; have B5 := hb3d.out.trans ((hbx.out.mono hb3d.out.size).trans (footB hmx.out o5 (by have := hb3d.out.size ; simp ; omega))) ; obtain ⟨S5, hW5⟩ := far.out w5 B5 ; have K5 := Lib.hid (And.intro m5 (And.intro B5 S5)) ; clear m5 r5 ap5 o5 hv5 B5 hW5))
          obtain ⟨m5, B5, c0, c1, c2, c3⟩ := K5.out
          rw [doN_not n (by omega)] at m5
          have m5 := Lib.hid m5
          have B5 := Lib.hid B5
          generalize Do.doC C dk da dold dx = C5 at *
          go_wp2_with fail
          refine (Mem.peek m5.out da hd (by omega)).mono ?_
          rintro e w6 ⟨rfl, h6, ho6⟩
          have B6 := Lib.hid (B5.out.trans (footB m5.out ho6 B5.out.size))
          have h6 := Lib.hid h6
          obtain ⟨⟨c0, c1, c2, c3⟩, hW6⟩ := far.out w6 B6.out
          clear ho6 hW6
          go_wp2_with fail
          refine (Mem.count h6.out).mono ?_
          rintro e w7 ⟨rfl, hw7⟩
          have h7 := h6.out
          have B7 := B6.out
          rw [hw7] at h7 B7
          clear hw7 h6 B6
          have h7 := Lib.hid h7
          have B7 := Lib.hid B7
          obtain ⟨⟨c0, c1, c2, c3⟩, hW7⟩ := far.out w7 B7.out
          clear hW7
          go_wp2_with fail
          refine (Mem.load h7.out da hd (by omega)).mono ?_
          rintro e w8 ⟨rfl, h8', ho8⟩
          have B8 := B7.out.trans (footB h7.out ho8 B7.out.size)
          obtain ⟨_, hW8⟩ := far.out w8 B8
          have hW8 := Lib.hid hW8
          clear h8' ho8 B8
          go_wp2
          go_ret
          exact ⟨rfl, hW8.out⟩
      · have g2 : decide (1 ≤ dk) = false := by simp; omega
        have g4 : decide (0 < dk) = false := by simp; omega
        have g5 : ¬ 0 < dk := by omega
        have g6 : ¬ 1 ≤ dk := by omega
        have g7 : dk ≤ 0 := by omega
        have g8 : dk < 1 := by omega
        go_wp2_with fail
        go_quiet ((go_at_call 21; exact Calls.quiet_of_same ((Mem.len (hq.out _)).mono fun _ _ h => ⟨h.1, h.2.symm⟩)))
        go_wp2_with fail
        replace h3d := Lib.hid (hq.out nq)
        replace hb3d := Lib.hid (hbq.out nq)
        clear hq hbq p0 p1 p2 p3
        obtain ⟨⟨p0, p1, p2, p3⟩, _⟩ := far.out (w3.drewN nq) hb3d.out
        generalize w3.drewN nq = w4 at *
        have h4d : MemAt w1.heap.size p v C n w4.drew := ⟨h3d.out.base, h3d.out.blk, h3d.out.own, h3d.out.ne⟩
        have hbx : Below w4.heap.size w4 (w4.alloc (.cells (madeCells #[.int .u64 0] C.length) 26)).drew := ((Below.refl _ _).alloc (Nat.le_refl _) _).drew
        have hmx := Lib.hid (h3d.out.below hbx)
        have hr : Ref.RefAt w1.heap.size (.slice (some ⟨w4.heap.size, 0, none⟩) C.length C.length) (List.replicate C.length 0) (w4.alloc (.cells (madeCells #[.int .u64 0] C.length) 26)).drew := by
          refine Ref.RefAt.drew ⟨?_, by simpa using hm, by simp; omega⟩
          have h := World.ownsRow_lit (base := w1.heap.size) w4 (madeCells #[.int .u64 0] C.length) (size := 1) (e := 26) C.length hb3d.out.size (by simp [maxLen]; omega) (by rw [size_madeCells]; omega)
          rw [toList_madeCells_one] at h
          simpa using h
        have hap : Do.Apart p v (.slice (some ⟨w4.heap.size, 0, none⟩) C.length C.length) := by
          intro k hk
          have e : w4.heap.size = k := by simpa [Value.ownBlock] using hk
          have hl := Do.foot_lt h3d.out
          exact ⟨fun hh => hl k (by omega) (.inl hh), fun hh => hl k (by omega) (.inr hh)⟩
        have h4d := Lib.hid h4d
        have hr := Lib.hid hr
        have hap := Lib.hid hap
        have hbx := Lib.hid hbx
        go_region_held3 (fun w' => w'.cell? ⟨W.heap.size, 0, none⟩ = some (.int .i64 dk) ∧ w'.cell? ⟨W.heap.size, 1, none⟩ = some (.int .i64 da) ∧ w'.cell? ⟨W.heap.size, 2, none⟩ = some (.int .u64 dold) ∧ w'.cell? ⟨W.heap.size, 3, none⟩ = some (.int .u64 dx)) (first | go_keep | exact S5)
          (first
            | (go_at_call 21 ; refine (Mem.len h4d.out).mono ?_ ; rintro e wl ⟨rfl, rfl⟩)
            | (go_at_call 18 ; refine (Ran.deed hmx.out hm hr.out hap.out (by have := hb3d.out.size ; simp ; omega) 0 dk da dold dx hd ?_).mono ?_ ; (omega) ; rintro e w5 ⟨v', s', cnt', D', ok, rfl, m5, r5, ap5, o5, hv5⟩ ; have B5 := hb3d.out.trans ((hbx.out.mono hb3d.out.size).trans (footB hmx.out o5 (by have := hb3d.out.size ; simp ; omega))) ; obtain ⟨S5, hW5⟩ := far.out w5 B5 ; have K5 := Lib.hid (And.intro m5 (And.intro B5 S5)) ; clear m5 r5 ap5 o5 hv5 B5 hW5))
        obtain ⟨m5, B5, c0, c1, c2, c3⟩ := K5.out
        rw [doN_not n (by omega)] at m5
        have m5 := Lib.hid m5
        have B5 := Lib.hid B5
        generalize Do.doC C dk da dold dx = C5 at *
        go_wp2_with fail
        refine (Mem.peek m5.out da hd (by omega)).mono ?_
        rintro e w6 ⟨rfl, h6, ho6⟩
        have B6 := Lib.hid (B5.out.trans (footB m5.out ho6 B5.out.size))
        have h6 := Lib.hid h6
        obtain ⟨⟨c0, c1, c2, c3⟩, hW6⟩ := far.out w6 B6.out
        clear ho6 hW6
        go_wp2_with fail
        refine (Mem.count h6.out).mono ?_
        rintro e w7 ⟨rfl, hw7⟩
        have h7 := h6.out
        have B7 := B6.out
        rw [hw7] at h7 B7
        clear hw7 h6 B6
        have h7 := Lib.hid h7
        have B7 := Lib.hid B7
        obtain ⟨⟨c0, c1, c2, c3⟩, hW7⟩ := far.out w7 B7.out
        clear hW7
        go_wp2_with fail
        refine (Mem.load h7.out da hd (by omega)).mono ?_
        rintro e w8 ⟨rfl, h8', ho8⟩
        have B8 := B7.out.trans (footB h7.out ho8 B7.out.size)
        obtain ⟨_, hW8⟩ := far.out w8 B8
        have hW8 := Lib.hid hW8
        clear h8' ho8 B8
        go_wp2
        go_ret
        exact ⟨rfl, hW8.out⟩
    · have g1 : decide (da < (C.length : Int)) = false := by simp; omega
      go_wp2_with fail
      go_quiet ((go_at_call 21; exact Calls.quiet_of_same ((Mem.len (hq.out _)).mono fun _ _ h => ⟨h.1, h.2.symm⟩)))
      go_wp2_with fail
      replace h3d := Lib.hid (hq.out nq)
      replace hb3d := Lib.hid (hbq.out nq)
      clear hq hbq p0 p1 p2 p3
      obtain ⟨⟨p0, p1, p2, p3⟩, _⟩ := far.out (w3.drewN nq) hb3d.out
      generalize w3.drewN nq = w4 at *
      have h4d : MemAt w1.heap.size p v C n w4.drew := ⟨h3d.out.base, h3d.out.blk, h3d.out.own, h3d.out.ne⟩
      have hbx : Below w4.heap.size w4 (w4.alloc (.cells (madeCells #[.int .u64 0] C.length) 26)).drew := ((Below.refl _ _).alloc (Nat.le_refl _) _).drew
      have hmx := Lib.hid (h3d.out.below hbx)
      have hr : Ref.RefAt w1.heap.size (.slice (some ⟨w4.heap.size, 0, none⟩) C.length C.length) (List.replicate C.length 0) (w4.alloc (.cells (madeCells #[.int .u64 0] C.length) 26)).drew := by
        refine Ref.RefAt.drew ⟨?_, by simpa using hm, by simp; omega⟩
        have h := World.ownsRow_lit (base := w1.heap.size) w4 (madeCells #[.int .u64 0] C.length) (size := 1) (e := 26) C.length hb3d.out.size (by simp [maxLen]; omega) (by rw [size_madeCells]; omega)
        rw [toList_madeCells_one] at h
        simpa using h
      have hap : Do.Apart p v (.slice (some ⟨w4.heap.size, 0, none⟩) C.length C.length) := by
        intro k hk
        have e : w4.heap.size = k := by simpa [Value.ownBlock] using hk
        have hl := Do.foot_lt h3d.out
        exact ⟨fun hh => hl k (by omega) (.inl hh), fun hh => hl k (by omega) (.inr hh)⟩
      have h4d := Lib.hid h4d
      have hr := Lib.hid hr
      have hap := Lib.hid hap
      have hbx := Lib.hid hbx
      go_region_held3 (fun w' => w'.cell? ⟨W.heap.size, 0, none⟩ = some (.int .i64 dk) ∧ w'.cell? ⟨W.heap.size, 1, none⟩ = some (.int .i64 da) ∧ w'.cell? ⟨W.heap.size, 2, none⟩ = some (.int .u64 dold) ∧ w'.cell? ⟨W.heap.size, 3, none⟩ = some (.int .u64 dx)) (first | go_keep | exact S5)
        (first
          | (go_at_call 21 ; refine (Mem.len h4d.out).mono ?_ ; rintro e wl ⟨rfl, rfl⟩)
          | (go_at_call 18 ; refine (Ran.deed hmx.out hm hr.out hap.out (by have := hb3d.out.size ; simp ; omega) 0 dk da dold dx hd ?_).mono ?_ ; (omega) ; rintro e w5 ⟨v', s', cnt', D', ok, rfl, m5, r5, ap5, o5, hv5⟩ ; have B5 := hb3d.out.trans ((hbx.out.mono hb3d.out.size).trans (footB hmx.out o5 (by have := hb3d.out.size ; simp ; omega))) ; obtain ⟨S5, hW5⟩ := far.out w5 B5 ; have K5 := Lib.hid (And.intro m5 (And.intro B5 S5)) ; clear m5 r5 ap5 o5 hv5 B5 hW5))
      obtain ⟨m5, B5, c0, c1, c2, c3⟩ := K5.out
      rw [doN_not n (by omega)] at m5
      have m5 := Lib.hid m5
      have B5 := Lib.hid B5
      generalize Do.doC C dk da dold dx = C5 at *
      go_wp2_with fail
      refine (Mem.peek m5.out da hd (by omega)).mono ?_
      rintro e w6 ⟨rfl, h6, ho6⟩
      have B6 := Lib.hid (B5.out.trans (footB m5.out ho6 B5.out.size))
      have h6 := Lib.hid h6
      obtain ⟨⟨c0, c1, c2, c3⟩, hW6⟩ := far.out w6 B6.out
      clear ho6 hW6
      go_wp2_with fail
      refine (Mem.count h6.out).mono ?_
      rintro e w7 ⟨rfl, hw7⟩
      have h7 := h6.out
      have B7 := B6.out
      rw [hw7] at h7 B7
      clear hw7 h6 B6
      have h7 := Lib.hid h7
      have B7 := Lib.hid B7
      obtain ⟨⟨c0, c1, c2, c3⟩, hW7⟩ := far.out w7 B7.out
      clear hW7
      go_wp2_with fail
      refine (Mem.load h7.out da hd (by omega)).mono ?_
      rintro e w8 ⟨rfl, h8', ho8⟩
      have B8 := B7.out.trans (footB h7.out ho8 B7.out.size)
      obtain ⟨_, hW8⟩ := far.out w8 B8
      have hW8 := Lib.hid hW8
      clear h8' ho8 B8
      go_wp2
      go_ret
      exact ⟨rfl, hW8.out⟩
  · have g0 : decide (0 ≤ da) = false := by simp; omega
    go_wp2_with fail
    go_quiet (fail)
    go_wp2_with fail
    replace h3d := Lib.hid (hq.out nq)
    replace hb3d := Lib.hid (hbq.out nq)
    clear hq hbq p0 p1 p2 p3
    obtain ⟨⟨p0, p1, p2, p3⟩, _⟩ := far.out (w3.drewN nq) hb3d.out
    generalize w3.drewN nq = w4 at *
    have h4d : MemAt w1.heap.size p v C n w4.drew := ⟨h3d.out.base, h3d.out.blk, h3d.out.own, h3d.out.ne⟩
    have hbx : Below w4.heap.size w4 (w4.alloc (.cells (madeCells #[.int .u64 0] C.length) 26)).drew := ((Below.refl _ _).alloc (Nat.le_refl _) _).drew
    have hmx := Lib.hid (h3d.out.below hbx)
    have hr : Ref.RefAt w1.heap.size (.slice (some ⟨w4.heap.size, 0, none⟩) C.length C.length) (List.replicate C.length 0) (w4.alloc (.cells (madeCells #[.int .u64 0] C.length) 26)).drew := by
      refine Ref.RefAt.drew ⟨?_, by simpa using hm, by simp; omega⟩
      have h := World.ownsRow_lit (base := w1.heap.size) w4 (madeCells #[.int .u64 0] C.length) (size := 1) (e := 26) C.length hb3d.out.size (by simp [maxLen]; omega) (by rw [size_madeCells]; omega)
      rw [toList_madeCells_one] at h
      simpa using h
    have hap : Do.Apart p v (.slice (some ⟨w4.heap.size, 0, none⟩) C.length C.length) := by
      intro k hk
      have e : w4.heap.size = k := by simpa [Value.ownBlock] using hk
      have hl := Do.foot_lt h3d.out
      exact ⟨fun hh => hl k (by omega) (.inl hh), fun hh => hl k (by omega) (.inr hh)⟩
    have h4d := Lib.hid h4d
    have hr := Lib.hid hr
    have hap := Lib.hid hap
    have hbx := Lib.hid hbx
    go_region_held3 (fun w' => w'.cell? ⟨W.heap.size, 0, none⟩ = some (.int .i64 dk) ∧ w'.cell? ⟨W.heap.size, 1, none⟩ = some (.int .i64 da) ∧ w'.cell? ⟨W.heap.size, 2, none⟩ = some (.int .u64 dold) ∧ w'.cell? ⟨W.heap.size, 3, none⟩ = some (.int .u64 dx)) (first | go_keep | exact S5)
      (first
        | (go_at_call 21 ; refine (Mem.len h4d.out).mono ?_ ; rintro e wl ⟨rfl, rfl⟩)
        | (go_at_call 18 ; refine (Ran.deed hmx.out hm hr.out hap.out (by have := hb3d.out.size ; simp ; omega) 0 dk da dold dx hd ?_).mono ?_ ; (omega) ; rintro e w5 ⟨v', s', cnt', D', ok, rfl, m5, r5, ap5, o5, hv5⟩ ; have B5 := hb3d.out.trans ((hbx.out.mono hb3d.out.size).trans (footB hmx.out o5 (by have := hb3d.out.size ; simp ; omega))) ; obtain ⟨S5, hW5⟩ := far.out w5 B5 ; have K5 := Lib.hid (And.intro m5 (And.intro B5 S5)) ; clear m5 r5 ap5 o5 hv5 B5 hW5))
    obtain ⟨m5, B5, c0, c1, c2, c3⟩ := K5.out
    rw [doN_not n (by omega)] at m5
    have m5 := Lib.hid m5
    have B5 := Lib.hid B5
    generalize Do.doC C dk da dold dx = C5 at *
    go_wp2_with fail
    refine (Mem.peek m5.out da hd (by omega)).mono ?_
    rintro e w6 ⟨rfl, h6, ho6⟩
    have B6 := Lib.hid (B5.out.trans (footB m5.out ho6 B5.out.size))
    have h6 := Lib.hid h6
    obtain ⟨⟨c0, c1, c2, c3⟩, hW6⟩ := far.out w6 B6.out
    clear ho6 hW6
    go_wp2_with fail
    refine (Mem.count h6.out).mono ?_
    rintro e w7 ⟨rfl, hw7⟩
    have h7 := h6.out
    have B7 := B6.out
    rw [hw7] at h7 B7
    clear hw7 h6 B6
    have h7 := Lib.hid h7
    have B7 := Lib.hid B7
    obtain ⟨⟨c0, c1, c2, c3⟩, hW7⟩ := far.out w7 B7.out
    clear hW7
    go_wp2_with fail
    refine (Mem.load h7.out da hd (by omega)).mono ?_
    rintro e w8 ⟨rfl, h8', ho8⟩
    have B8 := B7.out.trans (footB h7.out ho8 B7.out.size)
    obtain ⟨_, hW8⟩ := far.out w8 B8
    have hW8 := Lib.hid hW8
    clear h8' ho8 B8
    go_wp2
    go_ret
    exact ⟨rfl, hW8.out⟩
end Go.Proofs.Ytllibgjajlgnbaa.WalkMemCounts
