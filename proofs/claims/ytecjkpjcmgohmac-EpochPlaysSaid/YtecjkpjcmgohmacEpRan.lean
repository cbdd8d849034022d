/- Both pools behind deeds. Laid by genepran.py. -/
import Derived.Test.YtecjkpjcmgohmacEpDo2
namespace Go.Proofs.Ytecjkpjcmgohmac.EpDo
open Go Go.RowKit Go.Maps Go.Proofs.Ytecjkpjcmgohmac.Only Go.Proofs.Ytecjkpjcmgohmac.Ep Go.Proofs.Ytecjkpjcmgohmac.EpRef Go.Proofs.Ytecjkpjcmgohmac.Args
set_option linter.unusedVariables false
set_option linter.unusedSimpArgs false

theorem doAny {B pb mb : Nat} {vin : Value} {c n : Nat} {inn : List Int} {ep rep : Int} {G : List Grp} {vI vR : Value} {rin : List Int} {R : List (Int × Int)} {w : World}
    (h : BothR B pb mb vin inn ep G vI vR rin R w) (b : PB c n inn ep G) (rb : RB n rin rep R) (hn : n ≤ 900) (hc : 1 ≤ c) (h8 : c ≤ 8) (hB : B ≤ w.heap.size) (d : Dd) :
    Calls Try.prog 14 #[.pointer (some ⟨pb, 0, none⟩), .agg (xv vI rep vR), .agg #[.int .i64 d.k, .int .i64 d.t, .int .u64 d.x]] w (Did B pb mb vin inn ep G rin rep R d w) := by
  obtain ⟨k, t, x⟩ := d
  by_cases h1 : k = 1
  · subst h1; exact do1 h b rb hn hc h8 hB t x
  by_cases h2 : k = 2
  · subst h2; exact do2 h b rb hn hc h8 hB t x
  by_cases h3 : k = 3
  · subst h3; exact do3 h b rb hn hc h8 hB t x
  by_cases h4 : k = 4
  · subst h4; exact do4 h b rb hn hc h8 hB t x
  exact doF h b rb hn hc h8 hB k t x h1 h2 h3 h4

/-- What holds at each round: both pools, the reference in its box. -/
structure Rd (W0 : World) (q pb mb : Nat) (vin : Value) (c n : Nat) (inn : List Int) (ep : Int) (G : List Grp) (vI vR : Value) (rin : List Int) (rep : Int) (R : List (Int × Int)) (wr : World) : Prop where
  both : BothR W0.heap.size pb mb vin inn ep G vI vR rin R wr
  pb : PB c n inn ep G
  rb : RB n rin rep R
  x : X3 q #[vI, .int .i64 rep, vR] wr
  q0 : W0.heap.size ≤ q
  bel : Below W0.heap.size W0 wr
section
variable {B pb mb : Nat} {vin : Value} {c n : Nat} {inn inn2 : List Int} {ep ep2 rep : Int} {G G2 : List Grp} {vI vR vI2 vR2 : Value} {rin : List Int} {R : List (Int × Int)} {w w' wr w5 w7 W0 : World} {q : Nat}
theorem poolF_ne {ct : Array Value} (h : PoolR B pb mb vin inn ep G w) (hx : X3 q ct w) : ¬ PoolF pb mb vin G q := by
  rintro (e | e | e | ⟨g, hg, e⟩)
  · exact hx.ty h.blk (by decide) e
  · exact h.map_ne hx e
  · exact hx.ne h.inn (by decide) e
  · exact hx.ne (h.rows g hg) (by decide) e
theorem ownP_ne {ct : Array Value} (h : RefP B vI rin vR R w) (hx : X3 q ct w) : ¬ OwnP vI vR q := by
  rintro (e | e)
  · exact hx.ne h.i (by decide) e
  · exact hx.ne h.r (by decide) e
theorem BothR.below (h : BothR B pb mb vin inn ep G vI vR rin R w) (hb : Below w.heap.size w w') : BothR B pb mb vin inn ep G vI vR rin R w' := ⟨h.pool.below hb, h.ref.below hb, h.far⟩
theorem Rd.below (h : Rd W0 q pb mb vin c n inn ep G vI vR rin rep R wr) (hb : Below wr.heap.size wr w') : Rd W0 q pb mb vin c n inn ep G vI vR rin rep R w' :=
  ⟨h.both.below hb, h.pb, h.rb, h.x.below hb, h.q0, h.bel.trans (hb.mono h.bel.size)⟩
theorem Rd.keepB (h : Rd W0 q pb mb vin c n inn ep G vI vR rin rep R wr) (o : Only (PoolF pb mb vin G) wr w5) {t : Nat} {ct : Array Value} (hx : X3 t ct wr) : X3 t ct w5 := (o.block _ hx.lt (poolF_ne h.both.pool hx)).trans hx
theorem turn3 {q t : Nat} {cq : Array Value} {c0 c1 c2 : Value} {w5 : World} (hq : X3 q cq w5) (ht : X3 t #[c0, c1, c2] w5) (hqt : q ≠ t) (u0 u1 u2 : Value) :
    ∃ w6, w6 = (((w5.setCell ⟨t, 0, none⟩ u0).setCell ⟨t, 1, none⟩ u1).setCell ⟨t, 2, none⟩ u2) ∧ X3 t #[u0, u1, u2] w6 ∧ X3 q cq w6 ∧ Only (fun k => k = t) w5 w6 := by
  obtain ⟨w4, e, -, -, o⟩ := end3 ht (Below.refl 0 w5) (Nat.zero_le _) u0 u1 u2
  refine ⟨w4, e, by rw [e]; exact put3 ht u0 u1 u2, (o.block _ hq.lt hqt).trans hq, o⟩
theorem BothR.keepX2 {t : Nat} {cq ct : Array Value} (b5 : BothR B pb mb vin inn ep G vI vR rin R w5) (x5 : X3 q cq w5) (ht : X3 t ct w5 ∨ w5.heap.size ≤ t) (o67 : Only (fun k => k = q ∨ k = t) w5 w7) : BothR B pb mb vin inn ep G vI vR rin R w7 := by
  refine ⟨b5.pool.keep o67 (fun k hk e => ?_), b5.ref.keep o67 (fun k hk e => ?_), b5.far⟩
  · rcases e with e | e
    · subst e; exact poolF_ne b5.pool x5 hk
    · subst e
      rcases ht with h | h
      · exact poolF_ne b5.pool h hk
      · have := (b5.pool.low k hk).2; omega
  · rcases e with e | e
    · subst e; exact ownP_ne b5.ref x5 hk
    · subst e
      rcases ht with h | h
      · exact ownP_ne b5.ref h hk
      · have := (ref_low b5.ref k hk).2; omega
theorem Rd.step {d : Dd} {t : Nat} {cq ct : Array Value} (h : Rd W0 q pb mb vin c n inn ep G vI vR rin rep R wr) (hs : Sp d inn ep G inn2 ep2 G2) (b5 : BothR W0.heap.size pb mb vin inn2 ep2 G2 vI2 vR2 (rI d rin rep) (rR d rep R) w5) (B5 : Below W0.heap.size W0 w5)
    (x5 : X3 q cq w5) (ht : X3 t ct w5 ∨ w5.heap.size ≤ t) (tB : W0.heap.size ≤ t) (o67 : Only (fun k => k = q ∨ k = t) w5 w7) (x7 : X3 q #[vI2, .int .i64 (rE d rin rep), vR2] w7) :
    Rd W0 q pb mb vin c (n + 1) inn2 ep2 G2 vI2 vR2 (rI d rin rep) (rE d rin rep) (rR d rep R) w7 :=
  ⟨b5.keepX2 x5 ht o67, PB.step h.pb h.both.pool.asc hs, h.rb.step d, x7, h.q0, B5.trans (o67.toBelow _ B5.size (fun k _ e => by
    have := h.q0
    rcases e with e | e <;> omega))⟩
end
/-- The states that deeds reach. -/
inductive Reach (ds : List (List Int)) : Nat → List Int → Int → List Grp → Prop
  | new : Reach ds 0 (newI 4) 0 []
  | step {k : Nat} {inn inn2 : List Int} {ep ep2 : Int} {G G2 : List Grp} (h : Reach ds k inn ep G) (hk : k < ds.length) (hs : Sp (deedOf (ds.getD k [])) inn ep G inn2 ep2 G2) : Reach ds (k + 1) inn2 ep2 G2
/-- What ran leaves. -/
def RanTo (ds : List (List Int)) (W : World) (e : Ending) (w' : World) : Prop :=
  ∃ pb mb vin inn ep G k, e = .returned (.pointer (some ⟨pb, 0, none⟩)) ∧ PoolR W.heap.size pb mb vin inn ep G w' ∧ PB 4 80 inn ep G ∧ Below W.heap.size W w' ∧ Reach ds k inn ep G
set_option maxHeartbeats 16000000 in
set_option maxRecDepth 2000000 in
theorem ran (V : Value) (ds : List (List Int)) (W : World) (hV : Structs ks3 W V ds) :
    Calls Try.prog 10 #[V] W (RanTo ds W) := by
  obtain ⟨A, cap, rfl, hl, -⟩ := hV.shape
  unfold maxLen at hl
  have hV := Lib.hid hV
  obtain ⟨Q, hQ⟩ : ∃ Q, RanTo ds W = Q := ⟨_, rfl⟩
  rw [hQ]
  replace hQ := Lib.hid hQ
  go_enter Try.func10, Try.ntmps10
  go_wp2_with fail
  refine (new 4 (by omega) (by omega) W).mono ?_
  rintro e w1 ⟨pb, mb, vin, rfl, p1, b1⟩
  have s1 := b1.size
  replace p1 := Lib.hid p1
  replace b1 := Lib.hid b1
  go_wp2_with fail
  refine (rnew 4 (by omega) w1).mono ?_
  rintro e w2 ⟨vI, rfl, r2, b2⟩
  obtain ⟨AI, cI, e1, -⟩ := own_any' r2.i
  subst e1
  unfold xv
  have s2 := b2.size
  have R0 : Rd W w2.heap.size pb mb vin 4 0 (newI 4) 0 [] (.slice AI (newI 4).length cI) (.slice none 0 0) (newI 4) 0 [] (w2.alloc (.cells #[.slice AI (newI 4).length cI, .int .i64 0, .slice none 0 0] 35)) := by
    have hF : BothR W.heap.size pb mb vin (newI 4) 0 [] (.slice AI (newI 4).length cI) (.slice none 0 0) (newI 4) [] w2 := ⟨p1.out.below b2, r2.mono s1, fun k hk e => by
      have h1 := (p1.out.low k hk).2
      have h2 := (ref_low r2 k e).1
      omega⟩
    exact ⟨hF.below ((Below.refl _ _).alloc (Nat.le_refl _) _), PB.new 4, RB.new 4 (by omega), heap_alloc_new w2 _, by omega, (b1.out.trans (b2.mono s1)).alloc (by omega) _⟩
  have Rr := Lib.hid R0
  have hre : Hid (Reach ds 0 (newI 4) 0 []) := Lib.hid .new
  clear R0 r2 b2 p1
  go_upto_region 3 with fail
  generalize (w2.alloc (.cells #[.slice AI (newI 4).length cI, .int .i64 0, .slice none 0 0] 35)) = w3 at *
  generalize w2.heap.size = q at *
  clear s2 s1 b1
  go_wp2_with fail
  go_loopw [5] (fun i wr => ∃ k inn ep G vI vR rin rep R, k ≤ ds.length ∧ k ≤ 80 ∧ i = .int .i64 k ∧ Hid (Rd W q pb mb vin 4 k inn ep G vI vR rin rep R wr) ∧ Hid (Reach ds k inn ep G))
    (fun i _ => 80 - (intOf i).toNat)
  case atStart => exact ⟨0, _, _, _, _, _, _, _, _, by omega, by omega, rfl, Rr, hre⟩
  case round =>
    clear Rr hre
    obtain ⟨k, inn, ep, G, vI, vR, rin, rep, R, hk, hk80, rfl, Rr, hre⟩ := hrel
    obtain ⟨AI, cI, e1, -⟩ := own_any' Rr.out.both.ref.i
    obtain ⟨AR, cR, e2, -⟩ := own_any' Rr.out.both.ref.r
    subst e1 e2
    have RX := Rr.out.x
    obtain ⟨⟨a0, a1, a2⟩, -⟩ := cellsX RX
    clear RX
    by_cases hlt : k < ds.length ∧ k < 80
    · obtain ⟨hlt, hlt80⟩ := hlt
      obtain ⟨x, rfl, -, -, hdc⟩ := deedCells hV.out hlt
      obtain ⟨⟨dk, dt, dx⟩, hdd⟩ : ∃ dd, deedOf (ds.getD k []) = dd := ⟨_, rfl⟩
      rw [hdd] at hdc
      replace hdd := Lib.hid hdd
      dsimp only at hdc
      have b1 : decide ((k : Int) < ds.length) = true := by simp; omega
      have b2 : decide ((k : Int) < 80) = true := by simp; omega
      have hxb := (hdc W (Below.refl _ _)).2
      have hcell := Lib.hid (fun w' hb => (hdc w' hb).1)
      clear hdc
      obtain ⟨f0, f1, f2⟩ := hcell.out wr Rr.out.bel
      go_wp2_with fail
      have Rd1 := Lib.hid (Rr.out.below (below_drew (Below.refl _ _)))
      have Rd2 := Lib.hid (Rr.out.below (w' := (wr.alloc (.cells #[.slice none 0 0, .int .i64 0, .slice none 0 0] 35)).drew) (below_drew ((Below.refl _ _).alloc (Nat.le_refl _) _)))
      have hqw := lt_of_heap Rr.out.x
      have hWw := Rr.out.bel.size
      have ne1 : ¬ wr.heap.size = q := by omega
      have ne2 : ¬ wr.heap.size = (x.add (k * 3)).block := by rw [Args.add_block]; omega
      have ne3 : ∀ o, ¬ (⟨wr.heap.size, o, none⟩ : Addr) = x.add (k * 3) := fun o e => ne2 (by rw [← e])
      have ne4 : ¬ q = wr.heap.size := by omega
      have ne5 : ¬ (x.add (k * 3)).block = wr.heap.size := fun e => ne2 e.symm
      have ne6 : ∀ o, ¬ x.add (k * 3) = (⟨wr.heap.size, o, none⟩ : Addr) := fun o e => ne3 o e.symm
      go_region_held3 (fun w' => w'.cell? ⟨q, 0, none⟩ = some (.slice AI rin.length cI) ∧ w'.cell? ⟨q, 1, none⟩ = some (.int .i64 rep) ∧ w'.cell? ⟨q, 2, none⟩ = some (.slice AR R.length cR) ∧ w'.cell? (x.add (k * 3)) = some (.int .i64 dk) ∧ w'.cell? ⟨(x.add (k * 3)).block, (x.add (k * 3)).off + 1, none⟩ = some (.int .i64 dt) ∧ w'.cell? ⟨(x.add (k * 3)).block, (x.add (k * 3)).off + 2, none⟩ = some (.int .u64 dx))
        (first | go_keep | exact S5)
        (first
          | (go_at_call 14 ; refine (doAny Rd1.out.both Rd1.out.pb Rd1.out.rb (by omega) (by omega) (by omega) Rd1.out.bel.size ⟨dk, dt, dx⟩).mono ?_ ; rintro e w5 ⟨inn5, ep5, G5, vI5, vR5, ans, rfl, sp5, b5, ag5, o5⟩ ; obtain ⟨BI, bI, e1, -⟩ := own_any' b5.ref.i ; obtain ⟨BR, bR, e2, -⟩ := own_any' b5.ref.r ; subst e1 e2 ; have x5 := Rd1.out.keepB o5 Rd1.out.x ; obtain ⟨⟨y0, y1, y2⟩, -⟩ := cellsX x5 ; have B5 := Rd1.out.bel.trans (poolB Rd1.out.both.pool o5 Rd1.out.bel.size) ; have S5 := And.intro y0 (And.intro y1 (And.intro y2 (hcell.out w5 B5))) ; replace sp5 := Lib.hid sp5 ; replace ag5 := Lib.hid ag5 ; replace b5 := Lib.hid b5 ; replace o5 := Lib.hid o5 ; replace x5 := Lib.hid x5 ; replace B5 := Lib.hid B5 ; unfold xv)
          | (go_at_call 14 ; refine (doAny Rd2.out.both Rd2.out.pb Rd2.out.rb (by omega) (by omega) (by omega) Rd2.out.bel.size ⟨dk, dt, dx⟩).mono ?_ ; rintro e w5 ⟨inn5, ep5, G5, vI5, vR5, ans, rfl, sp5, b5, ag5, o5⟩ ; obtain ⟨BI, bI, e1, -⟩ := own_any' b5.ref.i ; obtain ⟨BR, bR, e2, -⟩ := own_any' b5.ref.r ; subst e1 e2 ; have x5 := Rd2.out.keepB o5 Rd2.out.x ; obtain ⟨⟨y0, y1, y2⟩, -⟩ := cellsX x5 ; have B5 := Rd2.out.bel.trans (poolB Rd2.out.both.pool o5 Rd2.out.bel.size) ; have S5 := And.intro y0 (And.intro y1 (And.intro y2 (hcell.out w5 B5))) ; have t5 := Rd2.out.keepB o5 (show X3 wr.heap.size #[.slice none 0 0, .int .i64 0, .slice none 0 0] _ from heap_alloc_new wr _) ; obtain ⟨⟨z0, z1, z2⟩, fz⟩ := cellsX t5 ; have h0 := fz 0 ; have h1 := fz 1 ; have h2 := fz 2 ; clear fz ; replace t5 := Lib.hid t5 ; replace sp5 := Lib.hid sp5 ; replace ag5 := Lib.hid ag5 ; replace b5 := Lib.hid b5 ; replace o5 := Lib.hid o5 ; replace x5 := Lib.hid x5 ; replace B5 := Lib.hid B5 ; unfold xv))
      · have nr5 : Reach ds (k + 1) inn5 ep5 G5 := .step hre.out hlt (by rw [hdd.out]; exact sp5.out)
        replace nr5 := Lib.hid nr5
        obtain ⟨w6, e6, q6⟩ : ∃ w6, w6 = w5.alloc (.cells #[.slice BI (rI ⟨dk, dt, dx⟩ rin rep).length bI, .int .i64 (rE ⟨dk, dt, dx⟩ rin rep), .slice BR (rR ⟨dk, dt, dx⟩ rep R).length bR] 35) ∧ X3 q #[.slice AI rin.length cI, .int .i64 rep, .slice AR R.length cR] w6 := ⟨_, rfl, (heap_alloc_old _ _ (lt_of_heap x5.out)).trans x5.out⟩
        have t6 : X3 w5.heap.size #[.slice BI (rI ⟨dk, dt, dx⟩ rin rep).length bI, .int .i64 (rE ⟨dk, dt, dx⟩ rin rep), .slice BR (rR ⟨dk, dt, dx⟩ rep R).length bR] w6 := by rw [e6]; exact heap_alloc_new _ _
        have o6 : Only (fun k => k = q ∨ k = w5.heap.size) w5 w6 := by rw [e6]; exact ofBelow ((Below.refl _ _).alloc (Nat.le_refl _) _)
        have hqt : q ≠ w5.heap.size := by have := lt_of_heap x5.out; omega
        go_upto_region 7 with fail
        rw [← e6]
        clear e6
        have hlt6 : w5.heap.size < w6.heap.size := lt_of_heap t6
        obtain ⟨⟨u0, u1, u2⟩, -⟩ := cellsX t6
        obtain ⟨⟨v0, v1, v2⟩, fv⟩ := cellsX q6
        have h0 := fv 0
        have h1 := fv 1
        have h2 := fv 2
        clear fv
        have hlt7 : q < w6.heap.size := lt_of_heap q6
        obtain ⟨w7, e7, -, -, o7⟩ := end3 q6 (Below.refl 0 w6) (Nat.zero_le _) (.slice BI (rI ⟨dk, dt, dx⟩ rin rep).length bI) (.int .i64 (rE ⟨dk, dt, dx⟩ rin rep)) (.slice BR (rR ⟨dk, dt, dx⟩ rep R).length bR)
        have x7 := put3 q6 (.slice BI (rI ⟨dk, dt, dx⟩ rin rep).length bI) (.int .i64 (rE ⟨dk, dt, dx⟩ rin rep)) (.slice BR (rR ⟨dk, dt, dx⟩ rep R).length bR)
        rw [← e7] at x7
        have o67 : Only (fun k => k = q ∨ k = w5.heap.size) w5 w7 := o6.trans (o7.mono (fun _ _ e => .inl e)) (fun _ _ e => e)
        have fin := Lib.hid (Rd.step Rr.out sp5.out b5.out B5.out x5.out ((.inr (Nat.le_refl _) : X3 w5.heap.size #[] w5 ∨ w5.heap.size ≤ w5.heap.size)) (B5.out.size) o67 x7)
        replace e7 := Lib.hid e7
        clear o6 o7 o67 x7 q6 t6
        go_wp2
        rw [← e7.out]
        go_roundw
        case rel => exact ⟨k + 1, _, _, _, _, _, _, _, _, by omega, by omega, by go_num, fin, nr5⟩
        case measure => simp [intOf]; omega
      · have nr5 : Reach ds (k + 1) inn5 ep5 G5 := .step hre.out hlt (by rw [hdd.out]; exact sp5.out)
        replace nr5 := Lib.hid nr5
        have hqt : q ≠ wr.heap.size := ne4
        obtain ⟨w6, e6, t6, q6, o6'⟩ := turn3 x5.out t5.out hqt (.slice BI (rI ⟨dk, dt, dx⟩ rin rep).length bI) (.int .i64 (rE ⟨dk, dt, dx⟩ rin rep)) (.slice BR (rR ⟨dk, dt, dx⟩ rep R).length bR)
        have o6 : Only (fun k => k = q ∨ k = wr.heap.size) w5 w6 := o6'.mono (fun _ _ e => .inr e)
        clear o6'
        go_upto_region 7 with fail
        rw [← e6]
        clear e6 h0 h1 h2 z0 z1 z2
        have hlt6 : wr.heap.size < w6.heap.size := lt_of_heap t6
        obtain ⟨⟨u0, u1, u2⟩, -⟩ := cellsX t6
        obtain ⟨⟨v0, v1, v2⟩, fv⟩ := cellsX q6
        have h0 := fv 0
        have h1 := fv 1
        have h2 := fv 2
        clear fv
        have hlt7 : q < w6.heap.size := lt_of_heap q6
        obtain ⟨w7, e7, -, -, o7⟩ := end3 q6 (Below.refl 0 w6) (Nat.zero_le _) (.slice BI (rI ⟨dk, dt, dx⟩ rin rep).length bI) (.int .i64 (rE ⟨dk, dt, dx⟩ rin rep)) (.slice BR (rR ⟨dk, dt, dx⟩ rep R).length bR)
        have x7 := put3 q6 (.slice BI (rI ⟨dk, dt, dx⟩ rin rep).length bI) (.int .i64 (rE ⟨dk, dt, dx⟩ rin rep)) (.slice BR (rR ⟨dk, dt, dx⟩ rep R).length bR)
        rw [← e7] at x7
        have o67 : Only (fun k => k = q ∨ k = wr.heap.size) w5 w7 := o6.trans (o7.mono (fun _ _ e => .inl e)) (fun _ _ e => e)
        have fin := Lib.hid (Rd.step Rr.out sp5.out b5.out B5.out x5.out (.inl t5.out) (hWw) o67 x7)
        replace e7 := Lib.hid e7
        clear o6 o7 o67 x7 q6 t6
        go_wp2
        rw [← e7.out]
        go_roundw
        case rel => exact ⟨k + 1, _, _, _, _, _, _, _, _, by omega, by omega, by go_num, fin, nr5⟩
        case measure => simp [intOf]; omega
    · have p9 := Rr.out.both.pool
      have b9 := Rr.out.pb.mono hk80
      have B9 := Rr.out.bel
      have fin : Q (.returned (.pointer (some ⟨pb, 0, none⟩))) wr := by
        rw [← hQ.out]
        exact ⟨_, _, _, _, _, _, k, rfl, p9, b9, B9, hre.out⟩
      replace fin := Lib.hid fin
      clear p9 b9 B9
      by_cases hlt2 : k < ds.length
      · have b1 : decide ((k : Int) < ds.length) = true := by simp; omega
        have b2 : decide ((k : Int) < 80) = false := by simp; omega
        go_wp2
        exact fin.out
      · have b1 : decide ((k : Int) < ds.length) = false := by simp; omega
        go_wp2
        exact fin.out
end Go.Proofs.Ytecjkpjcmgohmac.EpDo
