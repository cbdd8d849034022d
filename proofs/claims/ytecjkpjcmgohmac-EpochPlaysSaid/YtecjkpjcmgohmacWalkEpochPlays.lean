/- EpochPlays: each answer, the epoch, and how much is retired. Laid by genplays03.py. -/
import Derived.Test.YtecjkpjcmgohmacEpLaw2
namespace Go.Proofs.Ytecjkpjcmgohmac.WalkEpochPlays
open Go Go.RowKit Go.Maps Go.Proofs.Ytecjkpjcmgohmac.Only Go.Proofs.Ytecjkpjcmgohmac.Ep Go.Proofs.Ytecjkpjcmgohmac.EpRef Go.Proofs.Ytecjkpjcmgohmac.EpDo Go.Proofs.Ytecjkpjcmgohmac.Args
set_option linter.unusedVariables false
set_option linter.unusedSimpArgs false

set_option maxHeartbeats 16000000 in
set_option maxRecDepth 2000000 in
theorem walk (t : Int) (V : Value) (ds : List (List Int)) (ht : -9223372036854775808 ≤ t ∧ t ≤ 9223372036854775807) (W : World) (hV : Structs ks3 W V ds) :
    Calls Try.prog 5 #[.int .i64 t, V] W fun e w' => e = .returned (.bool true) ∧ Below W.heap.size W w' := by
  obtain ⟨A, cap, rfl, hl, -⟩ := hV.shape
  unfold maxLen at hl
  have hV := Lib.hid hV
  go_enter Try.func5, Try.ntmps5
  go_wp2_with fail
  refine (awake W).mono ?_
  rintro e wA ⟨rfl, hbA⟩
  have sA := hbA.size
  have hVA := Lib.hid (structs_below hV.out hbA)
  replace hbA := Lib.hid hbA
  by_cases hbad : t < 1 ∨ 8 < t
  · have C1 := Lib.hid (new_bad t hbad wA)
    have fin := Lib.hid hbA.out
    by_cases h1 : t < 1
    · have b1 : decide (t < 1) = true := decide_eq_true h1
      clear hbad h1
      go_wp2_with fail
      refine C1.out.mono ?_
      rintro e w' ⟨rfl, rfl⟩
      go_wp2
      go_ret
      exact ⟨rfl, fin.out⟩
    · have b1 : decide (t < 1) = false := decide_eq_false h1
      have b2 : decide (8 < t) = true := decide_eq_true (by omega)
      clear hbad h1
      go_wp2_with fail
      refine C1.out.mono ?_
      rintro e w' ⟨rfl, rfl⟩
      go_wp2
      go_ret
      exact ⟨rfl, fin.out⟩
  obtain ⟨c, rfl⟩ : ∃ c : Nat, t = c := ⟨t.toNat, by omega⟩
  have hc1 : 1 ≤ c := by omega
  have hc8 : c ≤ 8 := by omega
  have b1 : decide ((c : Int) < 1) = false := decide_eq_false (by omega)
  have b2 : decide ((8 : Int) < (c : Int)) = false := decide_eq_false (by omega)
  clear hbad
  have C1 := Lib.hid (new c hc1 hc8 wA)
  go_wp2_with fail
  refine C1.out.mono ?_
  rintro e w1 ⟨pb, mb, vin, rfl, p1, b1'⟩
  have s1 := b1'.size
  replace p1 := Lib.hid p1
  replace b1' := Lib.hid b1'
  have C2 := Lib.hid (rnew c (by omega) w1)
  clear C1
  go_wp2_with fail
  refine C2.out.mono ?_
  rintro e w2 ⟨vI, rfl, r2, b2'⟩
  obtain ⟨AI, cI, e1, -⟩ := own_any' r2.i
  subst e1
  unfold xv
  have s2 := b2'.size
  have R0 : Rd wA w2.heap.size pb mb vin c 0 (newI c) 0 [] (.slice AI (newI c).length cI) (.slice none 0 0) (newI c) 0 [] (w2.alloc (.cells #[.slice AI (newI c).length cI, .int .i64 0, .slice none 0 0] 35)) := by
    have hF : BothR wA.heap.size pb mb vin (newI c) 0 [] (.slice AI (newI c).length cI) (.slice none 0 0) (newI c) [] w2 := ⟨p1.out.below b2', r2.mono s1, fun k hk e => by
      have h1 := (p1.out.low k hk).2
      have h2 := (ref_low r2 k e).1
      omega⟩
    exact ⟨hF.below ((Below.refl _ _).alloc (Nat.le_refl _) _), PB.new c, RB.new c (by omega), heap_alloc_new w2 _, by omega, (b1'.out.trans (b2'.mono s1)).alloc (by omega) _⟩
  have Rr := Lib.hid R0
  have hcor : Hid (Cor (newI c) 0 [] (newI c) 0 []) := Lib.hid ⟨rfl, rfl, rfl⟩
  have hin : Hid (InOk (newI c) 0) := Lib.hid (InOk.new c)
  clear R0 r2 b2' p1 C2
  go_upto_region 8 with fail
  generalize (w2.alloc (.cells #[.slice AI (newI c).length cI, .int .i64 0, .slice none 0 0] 35)) = w3 at *
  generalize w2.heap.size = q at *
  clear s2 s1 b1' b1 b2
  go_wp2_with fail
  go_loopw [8] (fun i wr => ∃ k inn ep G vI vR rin rep R, k ≤ ds.length ∧ k ≤ 80 ∧ i = .int .i64 k ∧ Hid (Rd wA q pb mb vin c k inn ep G vI vR rin rep R wr) ∧ Hid (Cor inn ep G rin rep R) ∧ Hid (InOk inn ep))
    (fun i _ => 80 - (intOf i).toNat)
  case atStart => exact ⟨0, _, _, _, _, _, _, _, _, by omega, by omega, rfl, Rr, hcor, hin⟩
  case round =>
    clear Rr hcor hin
    obtain ⟨k, inn, ep, G, vI, vR, rin, rep, R, hk, hk80, rfl, Rr, hcor, hin⟩ := hrel
    obtain ⟨AI, cI, e1, -⟩ := own_any' Rr.out.both.ref.i
    obtain ⟨AR, cR, e2, -⟩ := own_any' Rr.out.both.ref.r
    subst e1 e2
    have RX := Rr.out.x
    obtain ⟨⟨a0, a1, a2⟩, -⟩ := cellsX RX
    clear RX
    by_cases hlt : k < ds.length ∧ k < 80
    · obtain ⟨hlt, hlt80⟩ := hlt
      obtain ⟨x, rfl, -, -, hdc⟩ := deedCells hVA.out hlt
      generalize deedOf (ds.getD k []) = dd at *
      obtain ⟨dk, dt, dx⟩ := dd
      dsimp only at hdc
      have b1 : decide ((k : Int) < ds.length) = true := by simp; omega
      have b2 : decide ((k : Int) < 80) = true := by simp; omega
      have hxb := (hdc wA (Below.refl _ _)).2
      have hcell := Lib.hid (fun w' hb => (hdc w' hb).1)
      clear hdc
      obtain ⟨f0, f1, f2⟩ := hcell.out wr Rr.out.bel
      go_wp2_with fail
      have Rd1 := Lib.hid (Rr.out.below (below_drew (Below.refl _ _)))
      have Rd2 := Lib.hid (Rr.out.below (w' := (wr.alloc (.cells #[.slice none 0 0, .int .i64 0, .slice none 0 0] 35)).drew) (below_drew ((Below.refl _ _).alloc (Nat.le_refl _) _)))
      have hqw := lt_of_heap Rr.out.x
      have hWw := Rr.out.bel.size
      have ne1 : ¬ wr.heap.size = q := by omega
      have ne2 : ¬ wr.heap.size = (x.add (k * 3)).block := by rw [Args.add_block]; omega
      have ne3 : ∀ o, ¬ (⟨wr.heap.size, o, none⟩ : Addr) = x.add (k * 3) := fun o e => ne2 (by rw [← e])
      have ne4 : ¬ q = wr.heap.size := by omega
      have ne5 : ¬ (x.add (k * 3)).block = wr.heap.size := fun e => ne2 e.symm
      have ne6 : ∀ o, ¬ x.add (k * 3) = (⟨wr.heap.size, o, none⟩ : Addr) := fun o e => ne3 o e.symm
      go_region_held3 (fun w' => w'.cell? ⟨q, 0, none⟩ = some (.slice AI rin.length cI) ∧ w'.cell? ⟨q, 1, none⟩ = some (.int .i64 rep) ∧ w'.cell? ⟨q, 2, none⟩ = some (.slice AR R.length cR) ∧ w'.cell? (x.add (k * 3)) = some (.int .i64 dk) ∧ w'.cell? ⟨(x.add (k * 3)).block, (x.add (k * 3)).off + 1, none⟩ = some (.int .i64 dt) ∧ w'.cell? ⟨(x.add (k * 3)).block, (x.add (k * 3)).off + 2, none⟩ = some (.int .u64 dx))
        (first | go_keep | exact S5)
        (first
          | (go_at_call 14 ; refine (doAny Rd1.out.both Rd1.out.pb Rd1.out.rb (by omega) (by omega) (by omega) Rd1.out.bel.size ⟨dk, dt, dx⟩).mono ?_ ; rintro e w5 ⟨inn5, ep5, G5, vI5, vR5, ans, rfl, sp5, b5, ag5, o5⟩ ; obtain ⟨BI, bI, e1, -⟩ := own_any' b5.ref.i ; obtain ⟨BR, bR, e2, -⟩ := own_any' b5.ref.r ; subst e1 e2 ; have x5 := Rd1.out.keepB o5 Rd1.out.x ; obtain ⟨⟨y0, y1, y2⟩, -⟩ := cellsX x5 ; have B5 := Rd1.out.bel.trans (poolB Rd1.out.both.pool o5 Rd1.out.bel.size) ; have S5 := And.intro y0 (And.intro y1 (And.intro y2 (hcell.out w5 B5))) ; replace sp5 := Lib.hid sp5 ; replace ag5 := Lib.hid ag5 ; replace b5 := Lib.hid b5 ; replace o5 := Lib.hid o5 ; replace x5 := Lib.hid x5 ; replace B5 := Lib.hid B5 ; unfold xv)
          | (go_at_call 14 ; refine (doAny Rd2.out.both Rd2.out.pb Rd2.out.rb (by omega) (by omega) (by omega) Rd2.out.bel.size ⟨dk, dt, dx⟩).mono ?_ ; rintro e w5 ⟨inn5, ep5, G5, vI5, vR5, ans, rfl, sp5, b5, ag5, o5⟩ ; obtain ⟨BI, bI, e1, -⟩ := own_any' b5.ref.i ; obtain ⟨BR, bR, e2, -⟩ := own_any' b5.ref.r ; subst e1 e2 ; have x5 := Rd2.out.keepB o5 Rd2.out.x ; obtain ⟨⟨y0, y1, y2⟩, -⟩ := cellsX x5 ; have B5 := Rd2.out.bel.trans (poolB Rd2.out.both.pool o5 Rd2.out.bel.size) ; have S5 := And.intro y0 (And.intro y1 (And.intro y2 (hcell.out w5 B5))) ; have t5 := Rd2.out.keepB o5 (show X3 wr.heap.size #[.slice none 0 0, .int .i64 0, .slice none 0 0] _ from heap_alloc_new wr _) ; obtain ⟨⟨z0, z1, z2⟩, fz⟩ := cellsX t5 ; have h0 := fz 0 ; have h1 := fz 1 ; have h2 := fz 2 ; clear fz ; replace t5 := Lib.hid t5 ; replace sp5 := Lib.hid sp5 ; replace ag5 := Lib.hid ag5 ; replace b5 := Lib.hid b5 ; replace o5 := Lib.hid o5 ; replace x5 := Lib.hid x5 ; replace B5 := Lib.hid B5 ; unfold xv))
      · have cor5 : Cor inn5 ep5 G5 (rI ⟨dk, dt, dx⟩ rin rep) (rE ⟨dk, dt, dx⟩ rin rep) (rR ⟨dk, dt, dx⟩ rep R) := hcor.out.step hin.out Rr.out.both.pool.asc Rr.out.both.pool.top sp5.out
        have in5 : InOk inn5 ep5 := hin.out.step Rr.out.pb.e0 sp5.out
        have an5 : ans = true := ag5.out (hcor.out.agree hin.out)
        subst an5
        replace cor5 := Lib.hid cor5
        replace in5 := Lib.hid in5
        obtain ⟨w6, e6, q6⟩ : ∃ w6, w6 = w5.alloc (.cells #[.slice BI (rI ⟨dk, dt, dx⟩ rin rep).length bI, .int .i64 (rE ⟨dk, dt, dx⟩ rin rep), .slice BR (rR ⟨dk, dt, dx⟩ rep R).length bR] 35) ∧ X3 q #[.slice AI rin.length cI, .int .i64 rep, .slice AR R.length cR] w6 := ⟨_, rfl, (heap_alloc_old _ _ (lt_of_heap x5.out)).trans x5.out⟩
        have t6 : X3 w5.heap.size #[.slice BI (rI ⟨dk, dt, dx⟩ rin rep).length bI, .int .i64 (rE ⟨dk, dt, dx⟩ rin rep), .slice BR (rR ⟨dk, dt, dx⟩ rep R).length bR] w6 := by rw [e6]; exact heap_alloc_new _ _
        have o6 : Only (fun k => k = q ∨ k = w5.heap.size) w5 w6 := by rw [e6]; exact ofBelow ((Below.refl _ _).alloc (Nat.le_refl _) _)
        have hqt : q ≠ w5.heap.size := by have := lt_of_heap x5.out; omega
        go_upto_region 12 with fail
        rw [← e6]
        clear e6
        have hlt6 : w5.heap.size < w6.heap.size := lt_of_heap t6
        obtain ⟨⟨u0, u1, u2⟩, -⟩ := cellsX t6
        obtain ⟨⟨v0, v1, v2⟩, fv⟩ := cellsX q6
        have h0 := fv 0
        have h1 := fv 1
        have h2 := fv 2
        clear fv
        have hlt7 : q < w6.heap.size := lt_of_heap q6
        obtain ⟨w7, e7, -, -, o7⟩ := end3 q6 (Below.refl 0 w6) (Nat.zero_le _) (.slice BI (rI ⟨dk, dt, dx⟩ rin rep).length bI) (.int .i64 (rE ⟨dk, dt, dx⟩ rin rep)) (.slice BR (rR ⟨dk, dt, dx⟩ rep R).length bR)
        have x7 := put3 q6 (.slice BI (rI ⟨dk, dt, dx⟩ rin rep).length bI) (.int .i64 (rE ⟨dk, dt, dx⟩ rin rep)) (.slice BR (rR ⟨dk, dt, dx⟩ rep R).length bR)
        rw [← e7] at x7
        have o67 : Only (fun k => k = q ∨ k = w5.heap.size) w5 w7 := o6.trans (o7.mono (fun _ _ e => .inl e)) (fun _ _ e => e)
        have fin := Lib.hid (Rd.step Rr.out sp5.out b5.out B5.out x5.out ((.inr (Nat.le_refl _) : X3 w5.heap.size #[] w5 ∨ w5.heap.size ≤ w5.heap.size)) (B5.out.size) o67 x7)
        replace e7 := Lib.hid e7
        clear o6 o7 o67 x7 q6 t6
        go_upto_region 13 with fail
        rw [← e7.out]
        clear e7 u0 u1 u2 v0 v1 v2 h0 h1 h2 hlt6 hlt7 ag5 sp5 b5 o5 x5 B5
        obtain ⟨c1, c2, c3⟩ := cor5.out
        generalize rI ⟨dk, dt, dx⟩ rin rep = rin5 at *
        generalize rE ⟨dk, dt, dx⟩ rin rep = rep5 at *
        generalize rR ⟨dk, dt, dx⟩ rep R = R5 at *
        subst c1 c2 c3
        have hL := row_len G5
        have RX7 := fin.out.x
        obtain ⟨⟨p0, p1, p2⟩, -⟩ := cellsX RX7
        have hq7 := RX7.lt
        have Rq := Lib.hid (fin.out.below (below_drew (Below.refl _ _)))
        have CE := Lib.hid (Ep.epoch Rq.out.both.pool)
        have CL := leftB Rq.out.both.pool Rq.out.pb (by omega)
        rw [← hL] at CL
        replace CL := Lib.hid CL
        replace hL := Lib.hid hL
        clear RX7
        go_region_held3 (fun w' => w'.cell? ⟨q, 1, none⟩ = some (.int .i64 rep5) ∧ w'.cell? ⟨q, 2, none⟩ = some (.slice BR (rowOf G5).length bR))
          (first | go_keep | exact S9)
          (first
            | (go_at_call 13 ; refine CE.out.mono ?_ ; rintro e w' ⟨rfl, rfl⟩ ; have S9 := And.intro p1 p2)
            | (go_at_call 19 ; refine CL.out.mono ?_ ; rintro e w8 ⟨rfl, b8⟩ ; have R8 := Rq.out.below b8 ; have S9 := (cellsX R8.x).1.2 ; replace R8 := Lib.hid R8 ; clear b8))
        go_wp2
        go_roundw
        case rel => exact ⟨k + 1, _, _, _, _, _, _, _, _, by omega, by omega, by go_num, R8, cor5, in5⟩
        case measure => simp [intOf]; omega
      · have cor5 : Cor inn5 ep5 G5 (rI ⟨dk, dt, dx⟩ rin rep) (rE ⟨dk, dt, dx⟩ rin rep) (rR ⟨dk, dt, dx⟩ rep R) := hcor.out.step hin.out Rr.out.both.pool.asc Rr.out.both.pool.top sp5.out
        have in5 : InOk inn5 ep5 := hin.out.step Rr.out.pb.e0 sp5.out
        have an5 : ans = true := ag5.out (hcor.out.agree hin.out)
        subst an5
        replace cor5 := Lib.hid cor5
        replace in5 := Lib.hid in5
        have hqt : q ≠ wr.heap.size := ne4
        obtain ⟨w6, e6, t6, q6, o6'⟩ := turn3 x5.out t5.out hqt (.slice BI (rI ⟨dk, dt, dx⟩ rin rep).length bI) (.int .i64 (rE ⟨dk, dt, dx⟩ rin rep)) (.slice BR (rR ⟨dk, dt, dx⟩ rep R).length bR)
        have o6 : Only (fun k => k = q ∨ k = wr.heap.size) w5 w6 := o6'.mono (fun _ _ e => .inr e)
        clear o6'
        go_upto_region 12 with fail
        rw [← e6]
        clear e6 h0 h1 h2 z0 z1 z2
        have hlt6 : wr.heap.size < w6.heap.size := lt_of_heap t6
        obtain ⟨⟨u0, u1, u2⟩, -⟩ := cellsX t6
        obtain ⟨⟨v0, v1, v2⟩, fv⟩ := cellsX q6
        have h0 := fv 0
        have h1 := fv 1
        have h2 := fv 2
        clear fv
        have hlt7 : q < w6.heap.size := lt_of_heap q6
        obtain ⟨w7, e7, -, -, o7⟩ := end3 q6 (Below.refl 0 w6) (Nat.zero_le _) (.slice BI (rI ⟨dk, dt, dx⟩ rin rep).length bI) (.int .i64 (rE ⟨dk, dt, dx⟩ rin rep)) (.slice BR (rR ⟨dk, dt, dx⟩ rep R).length bR)
        have x7 := put3 q6 (.slice BI (rI ⟨dk, dt, dx⟩ rin rep).length bI) (.int .i64 (rE ⟨dk, dt, dx⟩ rin rep)) (.slice BR (rR ⟨dk, dt, dx⟩ rep R).length bR)
        rw [← e7] at x7
        have o67 : Only (fun k => k = q ∨ k = wr.heap.size) w5 w7 := o6.trans (o7.mono (fun _ _ e => .inl e)) (fun _ _ e => e)
        have fin := Lib.hid (Rd.step Rr.out sp5.out b5.out B5.out x5.out (.inl t5.out) (hWw) o67 x7)
        replace e7 := Lib.hid e7
        clear o6 o7 o67 x7 q6 t6
        go_upto_region 13 with fail
        rw [← e7.out]
        clear e7 u0 u1 u2 v0 v1 v2 h0 h1 h2 hlt6 hlt7 ag5 sp5 b5 o5 x5 B5
        obtain ⟨c1, c2, c3⟩ := cor5.out
        generalize rI ⟨dk, dt, dx⟩ rin rep = rin5 at *
        generalize rE ⟨dk, dt, dx⟩ rin rep = rep5 at *
        generalize rR ⟨dk, dt, dx⟩ rep R = R5 at *
        subst c1 c2 c3
        have hL := row_len G5
        have RX7 := fin.out.x
        obtain ⟨⟨p0, p1, p2⟩, -⟩ := cellsX RX7
        have hq7 := RX7.lt
        have Rq := Lib.hid (fin.out.below (below_drew (Below.refl _ _)))
        have CE := Lib.hid (Ep.epoch Rq.out.both.pool)
        have CL := leftB Rq.out.both.pool Rq.out.pb (by omega)
        rw [← hL] at CL
        replace CL := Lib.hid CL
        replace hL := Lib.hid hL
        clear RX7
        go_region_held3 (fun w' => w'.cell? ⟨q, 1, none⟩ = some (.int .i64 rep5) ∧ w'.cell? ⟨q, 2, none⟩ = some (.slice BR (rowOf G5).length bR))
          (first | go_keep | exact S9)
          (first
            | (go_at_call 13 ; refine CE.out.mono ?_ ; rintro e w' ⟨rfl, rfl⟩ ; have S9 := And.intro p1 p2)
            | (go_at_call 19 ; refine CL.out.mono ?_ ; rintro e w8 ⟨rfl, b8⟩ ; have R8 := Rq.out.below b8 ; have S9 := (cellsX R8.x).1.2 ; replace R8 := Lib.hid R8 ; clear b8))
        go_wp2
        go_roundw
        case rel => exact ⟨k + 1, _, _, _, _, _, _, _, _, by omega, by omega, by go_num, R8, cor5, in5⟩
        case measure => simp [intOf]; omega
    · have fin := Lib.hid (hbA.out.trans (Rr.out.bel.mono sA))
      by_cases hlt2 : k < ds.length
      · have b1 : decide ((k : Int) < ds.length) = true := by simp; omega
        have b2 : decide ((k : Int) < 80) = false := by simp; omega
        go_wp2
        go_ret
        exact ⟨rfl, fin.out⟩
      · have b1 : decide ((k : Int) < ds.length) = false := by simp; omega
        go_wp2
        go_ret
        exact ⟨rfl, fin.out⟩
end Go.Proofs.Ytecjkpjcmgohmac.WalkEpochPlays
