/- ChainSteps: each step asks one cell at most; what is done asks none. -/
import Derived.Test.YtllibgjajlgnbabChain8
namespace Go.Proofs.Ytllibgjajlgnbab.WalkChainSteps
open Go Go.RowKit Go.Proofs.Ytllibgjajlgnbab.Only Go.Proofs.Ytllibgjajlgnbab.Mem Go.Proofs.Ytllibgjajlgnbab.New Go.Proofs.Ytllibgjajlgnbab.Chain Go.Proofs.Ytllibgjajlgnbab.Args
set_option linter.unusedVariables false
set_option linter.unusedSimpArgs false

/-- A slice's element as a truth. -/
theorem boolCell {w : World} {A : Option Addr} {m cap : Nat} {zs : List (List Value)} (h : StructsV [.bool] w (.slice A m cap) zs) {k : Nat} (hk : k < zs.length) :
    ∃ (x : Addr) (b : Bool), A = some x ∧ x.block < w.heap.size ∧ ∀ w', Below w.heap.size w w' → w'.cell? (x.add k) = some (.bool b) := by
  obtain ⟨⟨a, cap', hv, hl, hx⟩, hok⟩ := h
  obtain ⟨x, ha, hxb, hc⟩ := hx k hk
  have hA : A = a := by injection hv
  obtain ⟨b, hb⟩ := hok k hk 0 _ rfl
  refine ⟨x, b, hA.trans ha, hxb, fun w' hbw => ?_⟩
  have c := hc 0 .bool rfl
  rw [show (x.add (k * [Lf.bool].length)).add 0 = x.add k by unfold Addr.add; simp] at c
  rw [hbw.cell (by rw [add_block]; exact hxb), c, hb]

/-- What holds at each round. -/
structure St (B sb p pa pb : Nat) (v : Value) (n : Int) (t : Two) (w : World) : Prop where
  two : TwoAt B sb p pa pb v n t w
  one : ∃ x, t.C = [x]
  ca : t.a.c = 0
  cb : t.b.c = 0
theorem St.sA {B sb p pa pb : Nat} {v : Value} {n n' : Int} {t : Two} {w w' : World} (h : St B sb p pa pb v n t w) (k : TwoAt B sb p pa pb v n' t.sA w') : St B sb p pa pb v n' t.sA w' := by
  obtain ⟨x, hx⟩ := h.one
  refine ⟨k, ?_, (stepP_c _ _ _).1.trans h.ca, h.cb⟩
  unfold Two.sA
  simp only [hx]
  exact stepC1 x _ _ h.ca
theorem St.sB {B sb p pa pb : Nat} {v : Value} {n n' : Int} {t : Two} {w w' : World} (h : St B sb p pa pb v n t w) (k : TwoAt B sb p pa pb v n' t.sB w') : St B sb p pa pb v n' t.sB w' := by
  obtain ⟨x, hx⟩ := h.one
  refine ⟨k, ?_, h.ca, (stepP_c _ _ _).1.trans h.cb⟩
  unfold Two.sB
  simp only [hx]
  exact stepC1 x _ _ h.cb
theorem two_mem {B sb p pa pb : Nat} {v : Value} {n : Int} {t : Two} {w : World} (h : TwoAt B sb p pa pb v n t w) : MemAt B p v t.C n w := by
  obtain ⟨vs, h1, _⟩ := h
  exact h1.mem
theorem two_below {B sb p pa pb : Nat} {v : Value} {n : Int} {t : Two} {w w' : World} (h : TwoAt B sb p pa pb v n t w) (hb : Below w.heap.size w w') : TwoAt B sb p pa pb v n t w' := by
  obtain ⟨vs, h1, h2, h3, h4⟩ := h
  exact ⟨vs, h1.below hb, h2.below hb, h3.below hb, Nat.le_trans h4 hb.size⟩

set_option maxHeartbeats 8000000 in
set_option maxRecDepth 2000000 in
theorem walk (V : Value) (ds : List (List Value)) (r : Int) (key val : ByteArray) (del : Bool) (U : Value) (bs : List (List Value)) (hr : -9223372036854775808 ≤ r ∧ r ≤ 9223372036854775807) (hk : key.size ≤ 9223372036854775807) (hv : val.size ≤ 9223372036854775807) (W : World) (hV : StructsV [.int .i64, .str, .str, .bool] W V ds) (hU : StructsV [.bool] W U bs) :
    Calls Try.prog 9 #[V, .agg #[.int .i64 r, .string key, .string val, .bool del], U] W fun e w' => e = .returned (.bool true) ∧ Below W.heap.size W w' := by
  obtain ⟨A, cap, rfl, hl, -⟩ := hU.shape
  unfold maxLen at hl
  have hb0 := al9 W (.cells #[.int .i64 r, .string key, .string val, .bool del] 56)
  have s0 := hb0.size
  have K0 := Lib.hid (heap_alloc_new W (.cells #[.int .i64 r, .string key, .string val, .bool del] 56))
  have hV := Lib.hid (hV.below hb0)
  have hU := Lib.hid hU
  have hb0 := Lib.hid hb0
  go_enter Try.func9, Try.ntmps9
  go_wp2_with fail
  refine (Chain.awake _).mono ?_
  rintro e w1 ⟨rfl, hb1⟩
  have K1 := Lib.hid ((hb1.block _ (lt_of_heap K0.out)).trans K0.out)
  have hV1 := Lib.hid (hV.out.below hb1)
  have B1 := Lib.hid (hb0.out.trans (hb1.mono s0))
  have s1 := B1.out.size
  have k1 := lt_of_heap K1.out
  clear hb1 hb0 K0 s0 hV
  go_wp2_with fail
  refine (Chain.chained _ ds _ hV1.out).mono ?_
  rintro e w2 ⟨sb, p, v, vs, x, Vs, n, rfl, h2, hg, hvl, hn0, hn1, hb2⟩
  have K2 := (hb2.block _ k1).trans K1.out
  have B2 := Lib.hid (B1.out.trans (hb2.mono s1))
  have C2 := Lib.hid hb2
  have s2 := hb2.size
  have h2 := Lib.hid h2
  have hg := Lib.hid hg
  have c0 : w2.cell? ⟨W.heap.size, 0, none⟩ = some (.int .i64 r) := by simp only [World.cell?, K2]; rfl
  have c1 : w2.cell? ⟨W.heap.size, 1, none⟩ = some (.string key) := by simp only [World.cell?, K2]; rfl
  have c2 : w2.cell? ⟨W.heap.size, 2, none⟩ = some (.string val) := by simp only [World.cell?, K2]; rfl
  have c3 : w2.cell? ⟨W.heap.size, 3, none⟩ = some (.bool del) := by simp only [World.cell?, K2]; rfl
  clear hb2 hV1
  go_wp2_with fail
  refine (Chain.put sb w2 0 r key val del).mono ?_
  rintro e w3 ⟨pa, rfl, p3, l3, hb3⟩
  have h3 := Lib.hid (h2.out.below hb3)
  have K3 := (hb3.block _ (lt_of_heap K2)).trans K2
  have C3 := Lib.hid (C2.out.trans (hb3.mono s2))
  have s3 := C3.out.size
  have s23 := hb3.size
  have hpa := lt_of_heap p3
  have p3 := Lib.hid p3
  clear c0 c1 c2 c3
  have c0 : w3.cell? ⟨W.heap.size, 0, none⟩ = some (.int .i64 r) := by simp only [World.cell?, K3]; rfl
  have c1 : w3.cell? ⟨W.heap.size, 1, none⟩ = some (.string key) := by simp only [World.cell?, K3]; rfl
  have c2 : w3.cell? ⟨W.heap.size, 2, none⟩ = some (.string val) := by simp only [World.cell?, K3]; rfl
  have c3 : w3.cell? ⟨W.heap.size, 3, none⟩ = some (.bool del) := by simp only [World.cell?, K3]; rfl
  clear hb3 h2
  go_wp2_with fail
  refine (Chain.put sb w3 0 r key val del).mono ?_
  rintro e w4 ⟨pb, rfl, p4, l4, hb4⟩
  have C4 := Lib.hid (C3.out.trans (hb4.mono s3))
  have S4 : St w1.heap.size sb p pa pb v n ⟨[x], Vs, ⟨0, r, key, val, del, 0, false, false⟩, ⟨0, r, key, val, del, 0, false, false⟩⟩ w4 := ⟨⟨vs, h3.out.below hb4, PutAt.below p3.out hb4, p4, C4.out.size⟩, ⟨x, rfl⟩, rfl, rfl⟩
  have ok4 : (Two.mk [x] Vs ⟨0, r, key, val, del, 0, false, false⟩ ⟨0, r, key, val, del, 0, false, false⟩).Ok 40 := ⟨fun y hy => by have h0 := hg.out.x0; have h1 := hg.out.xl; simp at hy; subst hy; omega, by simp, by simp, hvl⟩
  have S4 := Lib.hid S4
  have ok4 := Lib.hid ok4
  have hne : pa ≠ pb := by omega
  have hpaB : w1.heap.size ≤ pa := by omega
  have hpbB : w1.heap.size ≤ pb := by omega
  clear hb4 h3 p3 p4 c0 c1 c2 c3 K2 K3
  generalize (Two.mk [x] Vs ⟨0, r, key, val, del, 0, false, false⟩ ⟨0, r, key, val, del, 0, false, false⟩) = t0 at *
  go_wp2_with fail
  go_loopw [13, 14, 15] (fun i q c wr => ∃ (k : Nat) (t : Two) (n' : Int), k ≤ 30 ∧ i = .int .i64 k ∧ 0 ≤ n' ∧ n' ≤ 400 + k ∧ Hid (t.Ok (40 + k)) ∧ Hid (St w1.heap.size sb p pa pb v n' t wr) ∧ Hid (Below w1.heap.size w1 wr))
    (fun i _ _ _ => 30 - (intOf i).toNat)
  case atStart => exact ⟨0, t0, n, by omega, rfl, by omega, by omega, ok4, S4, C4⟩
  case round =>
    clear S4 ok4 C4
    obtain ⟨k, t, n', hk30, rfl, hn2, hn3, ok, S, hb⟩ := hrel
    by_cases hlt : k < 30
    · have b0 : decide ((k : Int) < 30) = true := by simp; omega
      by_cases hkl : k < bs.length
      · have b1 : decide ((k : Int) < bs.length) = true := by simp; omega
        obtain ⟨ad, bb, rfl, hxb, hcell⟩ := boolCell hU.out hkl
        have f0 := hcell wr (B1.out.trans (hb.out.mono s1))
        clear hcell
        cases bb with
        | true =>
          go_wp2_with fail
          refine (Mem.count (two_mem S.out.two)).mono ?_
          rintro e w5 ⟨rfl, hw⟩
          subst hw
          go_wp2_with fail
          refine (stepB S.out.two hpbB hne ok.out (by omega) (by omega)).mono ?_
          rintro e w6 ⟨rfl, t6, hb6⟩
          have S6 := S.out.sB t6
          have S6 := Lib.hid S6
          have B6 := Lib.hid (hb.out.trans hb6)
          have ok6 := Lib.hid (ok.out.sB (by omega))
          have hN := stepN01 t.C t.b
          generalize stepN t.C t.b = m1 at *
          generalize t.sB = t6' at *
          clear hb6 t6 S hb ok
          go_wp2_with fail
          refine (Mem.count (two_mem S6.out.two)).mono ?_
          rintro e w7 ⟨rfl, hw⟩
          subst hw
          have hcmp : decide (n' + 1 < n' + m1) = false := by simp; omega
          go_wp2
          go_roundw
          case rel => exact ⟨k + 1, t6', n' + m1, by omega, by go_num, by omega, by omega, ok6, S6, B6⟩
          case measure => simp [intOf]; omega
        | false =>
          go_wp2_with fail
          refine (Mem.count (two_mem S.out.two)).mono ?_
          rintro e w5 ⟨rfl, hw⟩
          subst hw
          go_wp2_with fail
          refine (stepA S.out.two hpaB hne ok.out (by omega) (by omega)).mono ?_
          rintro e w6 ⟨rfl, t6, hb6⟩
          have S6 := S.out.sA t6
          have S6 := Lib.hid S6
          have B6 := Lib.hid (hb.out.trans hb6)
          have ok6 := Lib.hid (ok.out.sA (by omega))
          have hN := stepN01 t.C t.a
          generalize stepN t.C t.a = m1 at *
          generalize t.sA = t6' at *
          clear hb6 t6 S hb ok
          go_wp2_with fail
          refine (Mem.count (two_mem S6.out.two)).mono ?_
          rintro e w7 ⟨rfl, hw⟩
          subst hw
          have hcmp : decide (n' + 1 < n' + m1) = false := by simp; omega
          go_wp2
          go_roundw
          case rel => exact ⟨k + 1, t6', n' + m1, by omega, by go_num, by omega, by omega, ok6, S6, B6⟩
          case measure => simp [intOf]; omega
      · have b1 : decide ((k : Int) < bs.length) = false := by simp; omega
        go_wp2_with fail
        refine (Mem.count (two_mem S.out.two)).mono ?_
        rintro e w5 ⟨rfl, hw⟩
        subst hw
        go_wp2_with fail
        refine (stepA S.out.two hpaB hne ok.out (by omega) (by omega)).mono ?_
        rintro e w6 ⟨rfl, t6, hb6⟩
        have S6 := S.out.sA t6
        have S6 := Lib.hid S6
        have B6 := Lib.hid (hb.out.trans hb6)
        have ok6 := Lib.hid (ok.out.sA (by omega))
        have hN := stepN01 t.C t.a
        generalize stepN t.C t.a = m1 at *
        generalize t.sA = t6' at *
        clear hb6 t6 S hb ok
        go_wp2_with fail
        refine (Mem.count (two_mem S6.out.two)).mono ?_
        rintro e w7 ⟨rfl, hw⟩
        subst hw
        have hcmp : decide (n' + 1 < n' + m1) = false := by simp; omega
        go_wp2
        go_roundw
        case rel => exact ⟨k + 1, t6', n' + m1, by omega, by go_num, by omega, by omega, ok6, S6, B6⟩
        case measure => simp [intOf]; omega
    · have b0 : decide ((k : Int) < 30) = false := by simp; omega
      obtain rfl : k = 30 := by omega
      obtain ⟨x1, hx1⟩ := S.out.one
      obtain ⟨vs1, g1, g2, g3, g4⟩ := S.out.two
      have O1 : OneAt w1.heap.size sb p pa v n' ⟨t.C, t.Vs, t.a⟩ wr := ⟨vs1, g1, g2, g4⟩
      have k1' : (Chain.One.mk t.C t.Vs t.a).Ok 70 := ⟨ok.out.C, ok.out.ca, ok.out.l⟩
      have d1 := run_done x1 t.Vs t.a S.out.ca
      obtain ⟨x2, hx2, -⟩ := run1 x1 t.Vs t.a S.out.ca 10
      have k2' := run_ok (m := 70) 10 (by omega) k1'
      rw [← hx1] at d1 hx2
      have O1 := Lib.hid O1
      have k1' := Lib.hid k1'
      have k2' := Lib.hid k2'
      have g3 := Lib.hid g3
      have d1 := Lib.hid d1
      have hx2 := Lib.hid hx2
      have hcb := Lib.hid S.out.cb
      have hkb := Lib.hid ok.out.cb
      clear g1 g2 S hx1 ok
      generalize hs1 : Chain.One.mk t.C t.Vs t.a = s1' at *
      have hs1 := Lib.hid hs1
      go_wp2_with fail
      refine (Chain.run O1.out hpaB k1'.out (by omega) (by omega)).mono ?_
      rintro e w5 ⟨rfl, n5, hn5, hn6, O5, hb5, hq5⟩
      have P5 := Lib.hid (hq5 pb _ (fun e => hne e.symm) g3.out)
      have B5 := Lib.hid (hb.out.trans hb5)
      generalize hr1 : s1'.run 10 = r1 at *
      obtain ⟨vs5, L5, Q5, s5⟩ := O5
      have O6 : OneAt w1.heap.size sb p pb v n5 ⟨r1.C, r1.Vs, t.b⟩ w5 := ⟨vs5, L5, P5.out, s5⟩
      have k6 : (Chain.One.mk r1.C r1.Vs t.b).Ok 80 := ⟨k2'.out.C, hkb.out, k2'.out.l⟩
      have d2 := run_done x2 r1.Vs t.b hcb.out
      have k7 := run_ok (m := 80) 10 (by omega) k6
      rw [← hx2.out] at d2
      have O6 := Lib.hid O6
      have k6 := Lib.hid k6
      have k7 := Lib.hid k7
      have d2 := Lib.hid d2
      have Q5 := Lib.hid Q5
      clear hb5 hq5 L5 P5 hb O1
      generalize hs2 : Chain.One.mk r1.C r1.Vs t.b = s2' at *
      have hs2 := Lib.hid hs2
      have hr1 := Lib.hid hr1
      go_wp2_with fail
      refine (Chain.run O6.out hpbB k6.out (by omega) (by omega)).mono ?_
      rintro e w7 ⟨rfl, n7, hn7, hn8, O7, hb7, hq7⟩
      have P7 := hq7 pa _ hne Q5.out
      have B7 := Lib.hid (B5.out.trans hb7)
      generalize hr2 : s2'.run 10 = r2 at *
      have hr2 := Lib.hid hr2
      obtain ⟨vs7, L7, Q7, s7⟩ := O7
      have T7 : TwoAt w1.heap.size sb p pa pb v n7 ⟨r2.C, r2.Vs, r1.P, r2.P⟩ w7 := ⟨vs7, L7, P7, Q7, s7⟩
      have k8 : (Two.mk r2.C r2.Vs r1.P r2.P).Ok 90 := ⟨k7.out.C, k2'.out.c, k7.out.c, k7.out.l⟩
      have T7 := Lib.hid T7
      have k8 := Lib.hid k8
      clear hb7 hq7 L7 P7 Q7 B5 O6 Q5
      have e1 : (Two.mk r2.C r2.Vs r1.P r2.P).sA = ⟨r2.C, r2.Vs, r1.P, r2.P⟩ := by simp [Two.sA, stepC, stepV, stepP, d1.out]
      have e2 : (Two.mk r2.C r2.Vs r1.P r2.P).sB = ⟨r2.C, r2.Vs, r1.P, r2.P⟩ := by simp [Two.sB, stepC, stepV, stepP, d2.out]
      have e3 : stepN r2.C r1.P = 0 := by simp [stepN, d1.out]
      have e4 : stepN r2.C r2.P = 0 := by simp [stepN, d2.out]
      have E := Lib.hid (And.intro e1 (And.intro e2 (And.intro e3 e4)))
      clear e1 e2 e3 e4
      go_wp2_with fail
      refine (Mem.count (two_mem T7.out)).mono ?_
      rintro e w8 ⟨rfl, hw⟩
      subst hw
      go_wp2_with fail
      refine (stepA T7.out hpaB hne k8.out (by omega) (by omega)).mono ?_
      rintro e w9 ⟨rfl, t9, hb9⟩
      dsimp only at t9
      rw [E.out.1, E.out.2.2.1] at t9
      rw [E.out.1]
      dsimp only
      rw [d1.out]
      have t9 := Lib.hid t9
      have B9 := Lib.hid (B7.out.trans hb9)
      clear hb9 T7 B7
      go_wp2_with fail
      refine (stepB t9.out hpbB hne k8.out (by omega) (by omega)).mono ?_
      rintro e w10 ⟨rfl, t10, hb10⟩
      dsimp only at t10
      rw [E.out.2.1, E.out.2.2.2] at t10
      rw [E.out.2.1]
      dsimp only
      rw [d2.out]
      have t10 := Lib.hid t10
      have B10 := Lib.hid (B9.out.trans hb10)
      clear hb10 t9 B9
      go_wp2_with fail
      refine (Mem.count (two_mem t10.out)).mono ?_
      rintro e w11 ⟨rfl, hw⟩
      subst hw
      rw [show n7 + 0 + 0 = n7 by omega]
      have fin := Lib.hid (B1.out.trans (B10.out.mono s1))
      clear t10 B10
      go_wp2
      go_ret
      exact ⟨rfl, fin.out⟩
end Go.Proofs.Ytllibgjajlgnbab.WalkChainSteps
