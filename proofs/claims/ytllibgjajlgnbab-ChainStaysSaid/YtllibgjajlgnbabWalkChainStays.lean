/- ChainStays: what there was at a revision stays so. Laid by genstay.py. -/
import Derived.Test.YtllibgjajlgnbabStepK
import Derived.Test.YtllibgjajlgnbabWalkChainTwo
import Derived.Test.YtllibgjajlgnbabArgsA
namespace Go.Proofs.Ytllibgjajlgnbab.WalkChainStays
open Go Go.RowKit Go.Proofs.Ytllibgjajlgnbab.Only Go.Proofs.Ytllibgjajlgnbab.Mem Go.Proofs.Ytllibgjajlgnbab.New Go.Proofs.Ytllibgjajlgnbab.Chain Go.Proofs.Ytllibgjajlgnbab.Args Go.Proofs.Ytllibgjajlgnbab.TwoLaw Go.Proofs.Ytllibgjajlgnbab.StayLaw Go.Proofs.Ytllibgjajlgnbab.WalkChainSteps Go.Proofs.Ytllibgjajlgnbab.WalkChainTwo
set_option linter.unusedVariables false
set_option linter.unusedSimpArgs false

set_option maxHeartbeats 16000000 in
set_option maxRecDepth 2000000 in
theorem walk (V0 : Value) (ds : List (List Value)) (V1 : Value) (es : List (List Value)) (rev : Int) (U : Value) (bs : List (List Value)) (hrev : -9223372036854775808 ≤ rev ∧ rev ≤ 9223372036854775807) (W : World) (hV : StructsV [.int .i64, .str, .str, .bool] W V0 ds) (hE : StructsV [.int .i64, .str, .str, .bool] W V1 es) (hU : StructsV [.bool] W U bs) :
    Calls Try.prog 11 #[.agg #[V0, V1], .int .i64 rev, U] W fun e w' => e = .returned (.bool true) ∧ Below W.heap.size W w' := by
  obtain ⟨A, cap, rfl, hl, -⟩ := hU.shape
  obtain ⟨A1, cap1, rfl, hl1, -⟩ := hE.shape
  unfold maxLen at hl hl1
  have hb0 := al9 W (.cells #[V0, .slice A1 es.length cap1] 86)
  have q0 := hb0.size
  have K0 := Lib.hid (heap_alloc_new W (.cells #[V0, .slice A1 es.length cap1] 86))
  have hV := Lib.hid (hV.below hb0)
  have hU := Lib.hid hU
  have hE := Lib.hid hE
  have hb0 := Lib.hid hb0
  go_enter Try.func11, Try.ntmps11
  go_wp2_with fail
  refine (Chain.awake _).mono ?_
  rintro e w1 ⟨rfl, hb1⟩
  have K1 := (hb1.block _ (lt_of_heap K0.out)).trans K0.out
  have hV1 := Lib.hid (hV.out.below hb1)
  have B1 := Lib.hid (hb0.out.trans (hb1.mono q0))
  have q1 := B1.out.size
  have k1 := lt_of_heap K1
  obtain ⟨x0, x1⟩ := bx2 K1
  clear hb1 hb0 K0 q0 hV K1
  go_wp2_with fail
  refine (Chain.chained _ ds _ hV1.out).mono ?_
  rintro e w2 ⟨sb, p, v, vs, x, Vs, n, rfl, h2, hg, hvl, hn0, hn1, hb2⟩
  have C2 := Lib.hid hb2
  have q2 := hb2.size
  have h2 := Lib.hid h2
  have hg := Lib.hid hg
  clear hb2 hV1 x0 x1
  go_wp2_with fail
  refine (Mem.peek h2.out.mem 0 (by omega) (by omega)).mono ?_
  rintro e w3 ⟨rfl, m3, o3⟩
  rw [rd1, show errAt [x] 0 = 0 by simp [errAt, inR]]
  have h3 := Lib.hid (h2.out.mems m3 o3)
  have C3 := Lib.hid (C2.out.trans (footB h2.out.mem o3 q2))
  have q3 := C3.out.size
  have hx0 := hg.out.x0
  have hxl := hg.out.xl
  have hrr := ofV_rr hg.out.rr x
  have hac := Lib.hid hg.out.ac
  have hrg := Lib.hid hg.out.rg
  clear m3 o3 h2 C2
  have hcs : (rev < -5 ∧ -5 ≤ (ofV Vs x).rev) ∨ (rev < -5 ∧ (ofV Vs x).rev < -5) ∨ (-5 ≤ rev ∧ rev ≤ (ofV Vs x).rev) ∨ (-5 ≤ rev ∧ (ofV Vs x).rev < rev) := by omega
  rcases hcs with ⟨d1, d2⟩ | ⟨d1, d2⟩ | ⟨d1, d2⟩ | ⟨d1, d2⟩
  · go_wp2_with (refine (Chain.rev h3.out x (by omega) (by omega)).mono ?_)
    rintro e w4 ⟨rfl, hb4⟩
    have h4 := Lib.hid (h3.out.below hb4)
    have C4 := Lib.hid (C3.out.trans (hb4.mono q3))
    have q4 := C4.out.size
    clear hb4 h3 C3
    generalize hr0 : (ofV Vs x).rev = r0 at *
    have hr0 := Lib.hid hr0
    go_wp2_with fail
    refine (at_ h4.out hac.out hrg.out x (-5) (by omega) (by omega) (by omega)).mono ?_
    rintro e w5 ⟨rfl, hb5⟩
    generalize hA0 : atR Vs x (-5) = A0 at *
    have S5 := Lib.hid (show Stay x r0 (-5) A0 x Vs from ⟨hg.out, hxl, hr0.out, by rw [hr0.out]; omega, by omega, hA0⟩)
    rw [kv_eq]
    clear hA0
    have hbx := hb5.trans ((al9 w5 (.cells #[.string (kvK A0), .string (kvV A0), .int .i64 (kvR A0)] 63)).mono hb5.size)
    have X6 := Lib.hid (show KvAt w5.heap.size #[.string (kvK A0), .string (kvV A0), .int .i64 (kvR A0)] _ from heap_alloc_new w5 (.cells #[.string (kvK A0), .string (kvV A0), .int .i64 (kvR A0)] 63))
    have h6 := Lib.hid (h4.out.below hbx)
    have C6 := Lib.hid (C4.out.trans (hbx.mono q4))
    clear hbx hb5 h4 C4
    go_wp2_with fail
    generalize (w5.alloc (.cells #[.string (kvK A0), .string (kvV A0), .int .i64 (kvR A0)] 63)) = w6 at *
    generalize w5.heap.size = jx at *
    have h6' : Hid (∃ vs, StoreAt w1.heap.size sb p v [x] n vs Vs w6) := Lib.hid ⟨vs, h6.out⟩
    go_loopw [17] (fun i wr => ∃ (k : Nat) (y : Int) (Vs' : List Ver) (n' : Int), k ≤ es.length ∧ k ≤ 40 ∧ i = .int .i64 k ∧ 0 ≤ n' ∧ n' ≤ 400 + 24 * k ∧ Vs'.length ≤ 40 + 24 * k ∧ Hid (Stay x r0 (-5) A0 y Vs') ∧ Hid (∃ vs, StoreAt w1.heap.size sb p v [y] n' vs Vs' wr) ∧ Hid (KvAt jx #[.string (kvK A0), .string (kvV A0), .int .i64 (kvR A0)] wr) ∧ Hid (Below w1.heap.size w1 wr))
      (fun i _ => 40 - (intOf i).toNat)
    case atStart => exact ⟨0, x, Vs, n, by omega, by omega, rfl, by omega, by omega, by omega, S5, h6', X6, C6⟩
    case round =>
      clear S5 h6' h6 X6 C6
      obtain ⟨k, y0, V7, n7, hk, hk40, rfl, hm0, hm1, hvl7, S7, h7, X7, C7⟩ := hrel
      by_cases hlt : k < es.length ∧ k < 40
      · obtain ⟨hlt, hlt40⟩ := hlt
        obtain ⟨ad, rfl, hre, hxb, hcell⟩ := eventCells hE.out hlt
        have e1 : decide ((k : Int) < es.length) = true := by simp; omega
        have e2 : decide ((k : Int) < 40) = true := by simp; omega
        have q7 := C7.out.size
        have hcell := Lib.hid hcell
        obtain ⟨f0, f1, f2, f3⟩ := hcell.out wr (B1.out.trans (C7.out.mono q1))
        generalize eventOf (es.getD k []) = ev at *
        have hre := Lib.hid hre
        obtain ⟨vs7, h7'⟩ := h7.out
        have h7' := Lib.hid h7'
        go_wp2_with fail
        refine (Chain.put sb wr 0 ev.rev ev.key ev.val ev.del).mono ?_
        rintro e wa ⟨pa, rfl, pa7, la7, hba⟩
        have ha7 := Lib.hid (h7'.out.below hba)
        have Xa := Lib.hid (X7.out.below hba)
        have Ca := Lib.hid (C7.out.trans (hba.mono q7))
        have qa := Ca.out.size
        have qra := hba.size
        have hpa := lt_of_heap pa7
        have pa7 := Lib.hid pa7
        obtain ⟨f0', f1', f2', f3'⟩ := hcell.out wa (B1.out.trans (Ca.out.mono q1))
        clear f0 f1 f2 f3 hba h7 h7' X7 C7
        go_wp2_with fail
        refine (Chain.put sb wa 0 ev.rev ev.key ev.val ev.del).mono ?_
        rintro e wb ⟨pb, rfl, pb7, lb7, hbb⟩
        have C8 := Lib.hid (Ca.out.trans (hbb.mono qa))
        have T8 : TwoAt w1.heap.size sb p pa pb v n7 ⟨[y0], V7, ⟨0, ev.rev, ev.key, ev.val, ev.del, 0, false, false⟩, ⟨0, ev.rev, ev.key, ev.val, ev.del, 0, false, false⟩⟩ wb := ⟨vs7, ha7.out.below hbb, pa7.out.below hbb, pb7, C8.out.size⟩
        have T8 := Lib.hid T8
        have X8 := Lib.hid (Xa.out.below hbb)
        have oa8 : On V7 ⟨0, ev.rev, ev.key, ev.val, ev.del, 0, false, false⟩ := ⟨rfl, hre.out, by simp, fun h => by simp at h⟩
        have oa8 := Lib.hid oa8
        have ob8 := oa8
        have hne : pa ≠ pb := by omega
        have hpaB : w1.heap.size ≤ pa := by omega
        have hpbB : w1.heap.size ≤ pb := by omega
        clear f0' f1' f2' f3' hbb ha7 pa7 pb7 Xa Ca hcell
        go_wp2_with fail
        go_loopw [20] (fun i wr => ∃ (j : Nat) (y : Int) (Vs' : List Ver) (a b : PutS) (n' : Int), j ≤ 12 ∧ i = .int .i64 j ∧ 0 ≤ n' ∧ n' ≤ 400 + 24 * k + 2 * j ∧ Vs'.length ≤ 40 + 24 * k + 2 * j ∧ Hid (On Vs' a) ∧ Hid (On Vs' b) ∧ Hid (Stay x r0 (-5) A0 y Vs') ∧ Hid (TwoAt w1.heap.size sb p pa pb v n' ⟨[y], Vs', a, b⟩ wr) ∧ Hid (KvAt jx #[.string (kvK A0), .string (kvV A0), .int .i64 (kvR A0)] wr) ∧ Hid (Below w1.heap.size w1 wr))
          (fun i _ => 12 - (intOf i).toNat)
        case atStart => exact ⟨0, y0, V7, _, _, n7, by omega, rfl, by omega, by omega, by omega, oa8, ob8, S7, T8, X8, C8⟩
        case round =>
          clear T8 oa8 ob8 X8 C8 S7
          obtain ⟨j, y, Vs', a, b, n', hj, rfl, hn2, hn3, hvl2, oa, ob, S, T, X, C⟩ := hrel
          by_cases hj12 : j < 12
          · have b0 : decide ((j : Int) < 12) = true := by simp; omega
            have hcond : ∃ u : Bool, (j < bs.length ∧ decide ((j : Int) < bs.length) = true ∧ ∃ (ad : Addr), A = some ad ∧ wr.cell? (ad.add j) = some (.bool u)) ∨ (u = false ∧ decide ((j : Int) < bs.length) = false ∧ ¬ j < bs.length) := by
              by_cases hjl : j < bs.length
              · obtain ⟨ad, bb, had, hxb, hcell⟩ := boolCell hU.out hjl
                exact ⟨bb, .inl ⟨hjl, by simp; omega, ad, had, hcell wr (B1.out.trans (C.out.mono q1))⟩⟩
              · exact ⟨false, .inr ⟨rfl, by simp; omega, hjl⟩⟩
            obtain ⟨u, hu⟩ := hcond
            have h8 : decide (8 < (j : Int)) = true ∨ decide (8 < (j : Int)) = false := by cases decide (8 < (j : Int)) <;> simp
            have h2 : ((j : Int) % 2 == 0) = true ∨ ((j : Int) % 2 == 0) = false := by cases ((j : Int) % 2 == 0) <;> simp
            cases u with
            | true =>
              rcases hu with ⟨hjl, b1, ad, rfl, f0⟩ | ⟨hu, -, -⟩
              · rcases h8 with b2 | b2
                · have okT : (Two.mk [y] Vs' a b).Ok 2000 := ⟨fun z hz => by have h0 := S.out.good.x0; have h1 := S.out.good.xl; simp at hz; subst hz; omega, by rw [show (Two.mk [y] Vs' a b).a.c = 0 from oa.out.c]; omega, by rw [show (Two.mk [y] Vs' a b).b.c = 0 from ob.out.c]; omega, by simp; omega⟩
                  have okT := Lib.hid okT
                  go_wp2_with (refine (StayLaw.stepA T.out hpaB hne okT.out (by omega) (by omega)).mono ?_)
                  all_goals
                    rintro e w9 ⟨rfl, t9, hb9, kk9⟩
                    have t9 : TwoAt w1.heap.size sb p pa pb v (n' + stepN [y] a) ⟨[stepX y Vs' a], stepV Vs' a, stepP [y] Vs' a, b⟩ w9 := by
                      have e := stepC_X y Vs' a oa.out.c
                      unfold Two.sA at t9
                      simp only [e] at t9
                      exact t9
                    obtain ⟨S9, P9, Q9⟩ := StayLaw.step S.out oa.out (by omega)
                    have t9 := Lib.hid t9
                    have C9 := Lib.hid (C.out.trans hb9)
                    have X9 := Lib.hid (kk9 _ _ X.out)
                    have hN9 := stepN01 [y] a
                    have hV9 := stepV_length Vs' a
                    have oo9 := Lib.hid (Q9 _ ob.out)
                    have S9 := Lib.hid S9
                    have P9 := Lib.hid P9
                    generalize (Two.mk [y] Vs' a b).sA.a.done = dn9
                    generalize stepN [y] a = m9 at *
                    generalize stepX y Vs' a = y9 at *
                    generalize stepV Vs' a = Vs9 at *
                    generalize stepP [y] Vs' a = p9 at *
                    clear hb9 S T C oa ob okT Q9 X kk9
                    have oa := P9
                    have ob := oo9
                    have S := S9
                    have T := t9
                    have C := C9
                    have X := X9
                    clear P9 oo9 S9 t9 C9 X9
                    have okU : (Two.mk [y9] Vs9 p9 b).Ok 2000 := ⟨fun z hz => by have h0 := S.out.good.x0; have h1 := S.out.good.xl; simp at hz; subst hz; omega, by rw [show (Two.mk [y9] Vs9 p9 b).a.c = 0 from oa.out.c]; omega, by rw [show (Two.mk [y9] Vs9 p9 b).b.c = 0 from ob.out.c]; omega, by simp; omega⟩
                    have okU := Lib.hid okU
                    go_wp2_with (refine (StayLaw.stepB T.out hpbB hne okU.out (by omega) (by omega)).mono ?_)
                    all_goals
                      rintro e w10 ⟨rfl, u9, hb10, kk10⟩
                      have u9 : TwoAt w1.heap.size sb p pa pb v (n' + m9 + stepN [y9] b) ⟨[stepX y9 Vs9 b], stepV Vs9 b, p9, stepP [y9] Vs9 b⟩ w10 := by
                        have e := stepC_X y9 Vs9 b ob.out.c
                        unfold Two.sB at u9
                        simp only [e] at u9
                        exact u9
                      obtain ⟨R9, P10, Q10⟩ := StayLaw.step S.out ob.out (by omega)
                      have u9 := Lib.hid u9
                      have D9 := Lib.hid (C.out.trans hb10)
                      have Y9 := Lib.hid (kk10 _ _ X.out)
                      have hN10 := stepN01 [y9] b
                      have hV10 := stepV_length Vs9 b
                      have oo10 := Lib.hid (Q10 _ oa.out)
                      have R9 := Lib.hid R9
                      have P10 := Lib.hid P10
                      generalize (Two.mk [y9] Vs9 p9 b).sB.b.done = dn10
                      generalize stepN [y9] b = m10 at *
                      generalize stepX y9 Vs9 b = y10 at *
                      generalize stepV Vs9 b = Vs10 at *
                      generalize stepP [y9] Vs9 b = p10 at *
                      clear hb10 S T C oa ob okU Q10 X kk10
                      have OA := oo10
                      have OB := P10
                      have SS := R9
                      have TT := u9
                      have CC := D9
                      have XX := Y9
                      go_wp2
                      go_roundw
                      case rel => exact ⟨j + 1, y10, Vs10, p9, p10, n' + m9 + m10, by omega, by go_num, by omega, by omega, by omega, OA, OB, SS, TT, XX, CC⟩
                      case measure => simp [intOf]; omega
                · have okT : (Two.mk [y] Vs' a b).Ok 2000 := ⟨fun z hz => by have h0 := S.out.good.x0; have h1 := S.out.good.xl; simp at hz; subst hz; omega, by rw [show (Two.mk [y] Vs' a b).a.c = 0 from oa.out.c]; omega, by rw [show (Two.mk [y] Vs' a b).b.c = 0 from ob.out.c]; omega, by simp; omega⟩
                  have okT := Lib.hid okT
                  go_wp2_with (refine (StayLaw.stepA T.out hpaB hne okT.out (by omega) (by omega)).mono ?_)
                  all_goals
                    rintro e w9 ⟨rfl, t9, hb9, kk9⟩
                    have t9 : TwoAt w1.heap.size sb p pa pb v (n' + stepN [y] a) ⟨[stepX y Vs' a], stepV Vs' a, stepP [y] Vs' a, b⟩ w9 := by
                      have e := stepC_X y Vs' a oa.out.c
                      unfold Two.sA at t9
                      simp only [e] at t9
                      exact t9
                    obtain ⟨S9, P9, Q9⟩ := StayLaw.step S.out oa.out (by omega)
                    have t9 := Lib.hid t9
                    have C9 := Lib.hid (C.out.trans hb9)
                    have X9 := Lib.hid (kk9 _ _ X.out)
                    have hN9 := stepN01 [y] a
                    have hV9 := stepV_length Vs' a
                    have oo9 := Lib.hid (Q9 _ ob.out)
                    have S9 := Lib.hid S9
                    have P9 := Lib.hid P9
                    generalize (Two.mk [y] Vs' a b).sA.a.done = dn9
                    generalize stepN [y] a = m9 at *
                    generalize stepX y Vs' a = y9 at *
                    generalize stepV Vs' a = Vs9 at *
                    generalize stepP [y] Vs' a = p9 at *
                    clear hb9 S T C oa ob okT Q9 X kk9
                    have OA := P9
                    have OB := oo9
                    have SS := S9
                    have TT := t9
                    have CC := C9
                    have XX := X9
                    go_wp2
                    go_roundw
                    case rel => exact ⟨j + 1, y9, Vs9, p9, b, n' + m9, by omega, by go_num, by omega, by omega, by omega, OA, OB, SS, TT, XX, CC⟩
                    case measure => simp [intOf]; omega
              · cases hu
            | false =>
              rcases h2 with b3 | b3
              · rcases hu with ⟨hjl, b1, ad, rfl, f0⟩ | ⟨-, b1, hnj⟩
                all_goals
                  have okT : (Two.mk [y] Vs' a b).Ok 2000 := ⟨fun z hz => by have h0 := S.out.good.x0; have h1 := S.out.good.xl; simp at hz; subst hz; omega, by rw [show (Two.mk [y] Vs' a b).a.c = 0 from oa.out.c]; omega, by rw [show (Two.mk [y] Vs' a b).b.c = 0 from ob.out.c]; omega, by simp; omega⟩
                  have okT := Lib.hid okT
                  go_wp2_with (refine (StayLaw.stepA T.out hpaB hne okT.out (by omega) (by omega)).mono ?_)
                  all_goals
                    rintro e w9 ⟨rfl, t9, hb9, kk9⟩
                    have t9 : TwoAt w1.heap.size sb p pa pb v (n' + stepN [y] a) ⟨[stepX y Vs' a], stepV Vs' a, stepP [y] Vs' a, b⟩ w9 := by
                      have e := stepC_X y Vs' a oa.out.c
                      unfold Two.sA at t9
                      simp only [e] at t9
                      exact t9
                    obtain ⟨S9, P9, Q9⟩ := StayLaw.step S.out oa.out (by omega)
                    have t9 := Lib.hid t9
                    have C9 := Lib.hid (C.out.trans hb9)
                    have X9 := Lib.hid (kk9 _ _ X.out)
                    have hN9 := stepN01 [y] a
                    have hV9 := stepV_length Vs' a
                    have oo9 := Lib.hid (Q9 _ ob.out)
                    have S9 := Lib.hid S9
                    have P9 := Lib.hid P9
                    generalize (Two.mk [y] Vs' a b).sA.a.done = dn9
                    generalize stepN [y] a = m9 at *
                    generalize stepX y Vs' a = y9 at *
                    generalize stepV Vs' a = Vs9 at *
                    generalize stepP [y] Vs' a = p9 at *
                    clear hb9 S T C oa ob okT Q9 X kk9
                    have oa := P9
                    have ob := oo9
                    have S := S9
                    have T := t9
                    have C := C9
                    have X := X9
                    clear P9 oo9 S9 t9 C9 X9
                    have okU : (Two.mk [y9] Vs9 p9 b).Ok 2000 := ⟨fun z hz => by have h0 := S.out.good.x0; have h1 := S.out.good.xl; simp at hz; subst hz; omega, by rw [show (Two.mk [y9] Vs9 p9 b).a.c = 0 from oa.out.c]; omega, by rw [show (Two.mk [y9] Vs9 p9 b).b.c = 0 from ob.out.c]; omega, by simp; omega⟩
                    have okU := Lib.hid okU
                    go_wp2_with (refine (StayLaw.stepB T.out hpbB hne okU.out (by omega) (by omega)).mono ?_)
                    all_goals
                      rintro e w10 ⟨rfl, u9, hb10, kk10⟩
                      have u9 : TwoAt w1.heap.size sb p pa pb v (n' + m9 + stepN [y9] b) ⟨[stepX y9 Vs9 b], stepV Vs9 b, p9, stepP [y9] Vs9 b⟩ w10 := by
                        have e := stepC_X y9 Vs9 b ob.out.c
                        unfold Two.sB at u9
                        simp only [e] at u9
                        exact u9
                      obtain ⟨R9, P10, Q10⟩ := StayLaw.step S.out ob.out (by omega)
                      have u9 := Lib.hid u9
                      have D9 := Lib.hid (C.out.trans hb10)
                      have Y9 := Lib.hid (kk10 _ _ X.out)
                      have hN10 := stepN01 [y9] b
                      have hV10 := stepV_length Vs9 b
                      have oo10 := Lib.hid (Q10 _ oa.out)
                      have R9 := Lib.hid R9
                      have P10 := Lib.hid P10
                      generalize (Two.mk [y9] Vs9 p9 b).sB.b.done = dn10
                      generalize stepN [y9] b = m10 at *
                      generalize stepX y9 Vs9 b = y10 at *
                      generalize stepV Vs9 b = Vs10 at *
                      generalize stepP [y9] Vs9 b = p10 at *
                      clear hb10 S T C oa ob okU Q10 X kk10
                      have OA := oo10
                      have OB := P10
                      have SS := R9
                      have TT := u9
                      have CC := D9
                      have XX := Y9
                      go_wp2
                      go_roundw
                      case rel => exact ⟨j + 1, y10, Vs10, p9, p10, n' + m9 + m10, by omega, by go_num, by omega, by omega, by omega, OA, OB, SS, TT, XX, CC⟩
                      case measure => simp [intOf]; omega
              · rcases hu with ⟨hjl, b1, ad, rfl, f0⟩ | ⟨-, b1, hnj⟩
                all_goals
                  have okT : (Two.mk [y] Vs' a b).Ok 2000 := ⟨fun z hz => by have h0 := S.out.good.x0; have h1 := S.out.good.xl; simp at hz; subst hz; omega, by rw [show (Two.mk [y] Vs' a b).a.c = 0 from oa.out.c]; omega, by rw [show (Two.mk [y] Vs' a b).b.c = 0 from ob.out.c]; omega, by simp; omega⟩
                  have okT := Lib.hid okT
                  go_wp2_with (refine (StayLaw.stepB T.out hpbB hne okT.out (by omega) (by omega)).mono ?_)
                  all_goals
                    rintro e w9 ⟨rfl, t9, hb9, kk9⟩
                    have t9 : TwoAt w1.heap.size sb p pa pb v (n' + stepN [y] b) ⟨[stepX y Vs' b], stepV Vs' b, a, stepP [y] Vs' b⟩ w9 := by
                      have e := stepC_X y Vs' b ob.out.c
                      unfold Two.sB at t9
                      simp only [e] at t9
                      exact t9
                    obtain ⟨S9, P9, Q9⟩ := StayLaw.step S.out ob.out (by omega)
                    have t9 := Lib.hid t9
                    have C9 := Lib.hid (C.out.trans hb9)
                    have X9 := Lib.hid (kk9 _ _ X.out)
                    have hN9 := stepN01 [y] b
                    have hV9 := stepV_length Vs' b
                    have oo9 := Lib.hid (Q9 _ oa.out)
                    have S9 := Lib.hid S9
                    have P9 := Lib.hid P9
                    generalize (Two.mk [y] Vs' a b).sB.b.done = dn9
                    generalize stepN [y] b = m9 at *
                    generalize stepX y Vs' b = y9 at *
                    generalize stepV Vs' b = Vs9 at *
                    generalize stepP [y] Vs' b = p9 at *
                    clear hb9 S T C oa ob okT Q9 X kk9
                    have OA := oo9
                    have OB := P9
                    have SS := S9
                    have TT := t9
                    have CC := C9
                    have XX := X9
                    go_wp2
                    go_roundw
                    case rel => exact ⟨j + 1, y9, Vs9, a, p9, n' + m9, by omega, by go_num, by omega, by omega, by omega, OA, OB, SS, TT, XX, CC⟩
                    case measure => simp [intOf]; omega
          · have b0 : decide ((j : Int) < 12) = false := by simp; omega
            obtain rfl : j = 12 := by omega
            obtain ⟨vs9, g1, g2, g3, g4⟩ := T.out
            have g1 := Lib.hid g1
            have hac2 := Lib.hid S.out.good.ac
            have hrg2 := Lib.hid S.out.good.rg
            have hy0 := S.out.good.x0
            have hyl := S.out.good.xl
            have hwl := S.out.wl
            have hge := S.out.ge
            have hwr := Lib.hid S.out.wr
            have heq := Lib.hid S.out.eq
            clear T oa ob g2 g3
            go_wp2_with fail
            refine (Mem.peek g1.out.mem 0 (by omega) (by omega)).mono ?_
            rintro e w9 ⟨rfl, m9, o9⟩
            dsimp only
            rw [rd1, show errAt [y] 0 = 0 by simp [errAt, inR]]
            have h9 := Lib.hid (g1.out.mems m9 o9)
            have C9 := Lib.hid (C.out.trans (footB g1.out.mem o9 g4))
            have q9 := C9.out.size
            have nX : ¬ Foot p v jx := fun hf => by
              have hk := X.out
              unfold KvAt at hk
              rcases hf with e | e
              · have h1 := g1.out.mem.blk; rw [← e, hk] at h1; cases h1
              · rcases g1.out.mem.own.2 with ⟨h2, _⟩ | ⟨g, cap, cur, hg, hb, hgg, _⟩
                · rw [h2] at e; cases e
                · rw [hg] at e; cases e; rw [hgg] at hk; cases hk
            have X9 : KvAt jx #[.string (kvK A0), .string (kvV A0), .int .i64 (kvR A0)] w9 := (o9.block _ (lt_of_heap X.out) nX).trans X.out
            have X9 := Lib.hid X9
            clear m9 o9 g1 C X
            go_wp2_with fail
            refine (at_ h9.out hac2.out hrg2.out y (-5) (by omega) (by omega) (by first | omega | (dsimp only; omega))).mono ?_
            rintro e w10 ⟨rfl, hb10⟩
            dsimp only
            rw [heq.out]
            rw [kv_eq]
            have hbx := hb10.trans ((al9 w10 (.cells #[.string (kvK A0), .string (kvV A0), .int .i64 (kvR A0)] 63)).mono hb10.size)
            have N11 := heap_alloc_new w10 (.cells #[.string (kvK A0), .string (kvV A0), .int .i64 (kvR A0)] 63)
            have h11 := Lib.hid (h9.out.below hbx)
            have X11 := Lib.hid (X9.out.below hbx)
            have C11 := Lib.hid (C9.out.trans (hbx.mono q9))
            have q11 := C11.out.size
            obtain ⟨z0, z1, z2⟩ := kv3 N11
            obtain ⟨z3, z4, z5⟩ := kv3 X11.out
            clear hbx hb10 h9 C9 N11 X9
            go_wp2_with fail
            refine (Chain.rev h11.out y (by omega) (by first | omega | (dsimp only; omega))).mono ?_
            rintro e w12 ⟨rfl, hb12⟩
            dsimp only
            have h12 := Lib.hid (h11.out.below hb12)
            have X12 := Lib.hid (X11.out.below hb12)
            have C12 := Lib.hid (C11.out.trans (hb12.mono q11))
            have q12 := C12.out.size
            clear hb12 h11 X11 C11 z0 z1 z2 z3 z4 z5
            go_wp2_with fail
            refine (Chain.rev h12.out x (by omega) (by first | omega | (dsimp only; omega))).mono ?_
            rintro e w13 ⟨rfl, hb13⟩
            dsimp only
            rw [hwr.out]
            have h13 : Hid (∃ vs, StoreAt w1.heap.size sb p v [y] n' vs Vs' w13) := Lib.hid ⟨vs9, h12.out.below hb13⟩
            have X13 := Lib.hid (X12.out.below hb13)
            have C13 := Lib.hid (C12.out.trans (hb13.mono q12))
            have hcmp : decide ((ofV Vs' y).rev < r0) = false := by simp; omega
            clear hb13 h12 X12 C12
            go_wp2
            go_roundw
            case rel => exact ⟨k + 1, y, Vs', n', by omega, by omega, by go_num, by omega, by omega, by omega, S, h13, X13, C13⟩
            case measure => simp [intOf]; omega
      · have fin := Lib.hid (B1.out.trans (C7.out.mono q1))
        have hcond : (decide ((k : Int) < es.length) = true ∧ decide ((k : Int) < 40) = false) ∨ decide ((k : Int) < es.length) = false := by
          by_cases h : k < es.length
          · exact .inl ⟨by simp; omega, by simp; omega⟩
          · exact .inr (by simp; omega)
        clear S7 h7 X7 C7
        rcases hcond with ⟨b1, b2⟩ | b1
        all_goals
          go_wp2
          all_goals
            go_ret
            exact ⟨rfl, fin.out⟩
  · go_wp2_with (refine (Chain.rev h3.out x (by omega) (by omega)).mono ?_)
    rintro e w4 ⟨rfl, hb4⟩
    have h4 := Lib.hid (h3.out.below hb4)
    have C4 := Lib.hid (C3.out.trans (hb4.mono q3))
    have q4 := C4.out.size
    clear hb4 h3 C3
    generalize hr0 : (ofV Vs x).rev = r0 at *
    have hr0 := Lib.hid hr0
    go_wp2_with fail
    refine (at_ h4.out hac.out hrg.out x (r0) (by omega) (by omega) (by omega)).mono ?_
    rintro e w5 ⟨rfl, hb5⟩
    generalize hA0 : atR Vs x (r0) = A0 at *
    have S5 := Lib.hid (show Stay x r0 (r0) A0 x Vs from ⟨hg.out, hxl, hr0.out, by rw [hr0.out]; omega, by omega, hA0⟩)
    rw [kv_eq]
    clear hA0
    have hbx := hb5.trans ((al9 w5 (.cells #[.string (kvK A0), .string (kvV A0), .int .i64 (kvR A0)] 63)).mono hb5.size)
    have X6 := Lib.hid (show KvAt w5.heap.size #[.string (kvK A0), .string (kvV A0), .int .i64 (kvR A0)] _ from heap_alloc_new w5 (.cells #[.string (kvK A0), .string (kvV A0), .int .i64 (kvR A0)] 63))
    have h6 := Lib.hid (h4.out.below hbx)
    have C6 := Lib.hid (C4.out.trans (hbx.mono q4))
    clear hbx hb5 h4 C4
    go_wp2_with fail
    generalize (w5.alloc (.cells #[.string (kvK A0), .string (kvV A0), .int .i64 (kvR A0)] 63)) = w6 at *
    generalize w5.heap.size = jx at *
    have h6' : Hid (∃ vs, StoreAt w1.heap.size sb p v [x] n vs Vs w6) := Lib.hid ⟨vs, h6.out⟩
    go_loopw [17] (fun i wr => ∃ (k : Nat) (y : Int) (Vs' : List Ver) (n' : Int), k ≤ es.length ∧ k ≤ 40 ∧ i = .int .i64 k ∧ 0 ≤ n' ∧ n' ≤ 400 + 24 * k ∧ Vs'.length ≤ 40 + 24 * k ∧ Hid (Stay x r0 (r0) A0 y Vs') ∧ Hid (∃ vs, StoreAt w1.heap.size sb p v [y] n' vs Vs' wr) ∧ Hid (KvAt jx #[.string (kvK A0), .string (kvV A0), .int .i64 (kvR A0)] wr) ∧ Hid (Below w1.heap.size w1 wr))
      (fun i _ => 40 - (intOf i).toNat)
    case atStart => exact ⟨0, x, Vs, n, by omega, by omega, rfl, by omega, by omega, by omega, S5, h6', X6, C6⟩
    case round =>
      clear S5 h6' h6 X6 C6
      obtain ⟨k, y0, V7, n7, hk, hk40, rfl, hm0, hm1, hvl7, S7, h7, X7, C7⟩ := hrel
      by_cases hlt : k < es.length ∧ k < 40
      · obtain ⟨hlt, hlt40⟩ := hlt
        obtain ⟨ad, rfl, hre, hxb, hcell⟩ := eventCells hE.out hlt
        have e1 : decide ((k : Int) < es.length) = true := by simp; omega
        have e2 : decide ((k : Int) < 40) = true := by simp; omega
        have q7 := C7.out.size
        have hcell := Lib.hid hcell
        obtain ⟨f0, f1, f2, f3⟩ := hcell.out wr (B1.out.trans (C7.out.mono q1))
        generalize eventOf (es.getD k []) = ev at *
        have hre := Lib.hid hre
        obtain ⟨vs7, h7'⟩ := h7.out
        have h7' := Lib.hid h7'
        go_wp2_with fail
        refine (Chain.put sb wr 0 ev.rev ev.key ev.val ev.del).mono ?_
        rintro e wa ⟨pa, rfl, pa7, la7, hba⟩
        have ha7 := Lib.hid (h7'.out.below hba)
        have Xa := Lib.hid (X7.out.below hba)
        have Ca := Lib.hid (C7.out.trans (hba.mono q7))
        have qa := Ca.out.size
        have qra := hba.size
        have hpa := lt_of_heap pa7
        have pa7 := Lib.hid pa7
        obtain ⟨f0', f1', f2', f3'⟩ := hcell.out wa (B1.out.trans (Ca.out.mono q1))
        clear f0 f1 f2 f3 hba h7 h7' X7 C7
        go_wp2_with fail
        refine (Chain.put sb wa 0 ev.rev ev.key ev.val ev.del).mono ?_
        rintro e wb ⟨pb, rfl, pb7, lb7, hbb⟩
        have C8 := Lib.hid (Ca.out.trans (hbb.mono qa))
        have T8 : TwoAt w1.heap.size sb p pa pb v n7 ⟨[y0], V7, ⟨0, ev.rev, ev.key, ev.val, ev.del, 0, false, false⟩, ⟨0, ev.rev, ev.key, ev.val, ev.del, 0, false, false⟩⟩ wb := ⟨vs7, ha7.out.below hbb, pa7.out.below hbb, pb7, C8.out.size⟩
        have T8 := Lib.hid T8
        have X8 := Lib.hid (Xa.out.below hbb)
        have oa8 : On V7 ⟨0, ev.rev, ev.key, ev.val, ev.del, 0, false, false⟩ := ⟨rfl, hre.out, by simp, fun h => by simp at h⟩
        have oa8 := Lib.hid oa8
        have ob8 := oa8
        have hne : pa ≠ pb := by omega
        have hpaB : w1.heap.size ≤ pa := by omega
        have hpbB : w1.heap.size ≤ pb := by omega
        clear f0' f1' f2' f3' hbb ha7 pa7 pb7 Xa Ca hcell
        go_wp2_with fail
        go_loopw [20] (fun i wr => ∃ (j : Nat) (y : Int) (Vs' : List Ver) (a b : PutS) (n' : Int), j ≤ 12 ∧ i = .int .i64 j ∧ 0 ≤ n' ∧ n' ≤ 400 + 24 * k + 2 * j ∧ Vs'.length ≤ 40 + 24 * k + 2 * j ∧ Hid (On Vs' a) ∧ Hid (On Vs' b) ∧ Hid (Stay x r0 (r0) A0 y Vs') ∧ Hid (TwoAt w1.heap.size sb p pa pb v n' ⟨[y], Vs', a, b⟩ wr) ∧ Hid (KvAt jx #[.string (kvK A0), .string (kvV A0), .int .i64 (kvR A0)] wr) ∧ Hid (Below w1.heap.size w1 wr))
          (fun i _ => 12 - (intOf i).toNat)
        case atStart => exact ⟨0, y0, V7, _, _, n7, by omega, rfl, by omega, by omega, by omega, oa8, ob8, S7, T8, X8, C8⟩
        case round =>
          clear T8 oa8 ob8 X8 C8 S7
          obtain ⟨j, y, Vs', a, b, n', hj, rfl, hn2, hn3, hvl2, oa, ob, S, T, X, C⟩ := hrel
          by_cases hj12 : j < 12
          · have b0 : decide ((j : Int) < 12) = true := by simp; omega
            have hcond : ∃ u : Bool, (j < bs.length ∧ decide ((j : Int) < bs.length) = true ∧ ∃ (ad : Addr), A = some ad ∧ wr.cell? (ad.add j) = some (.bool u)) ∨ (u = false ∧ decide ((j : Int) < bs.length) = false ∧ ¬ j < bs.length) := by
              by_cases hjl : j < bs.length
              · obtain ⟨ad, bb, had, hxb, hcell⟩ := boolCell hU.out hjl
                exact ⟨bb, .inl ⟨hjl, by simp; omega, ad, had, hcell wr (B1.out.trans (C.out.mono q1))⟩⟩
              · exact ⟨false, .inr ⟨rfl, by simp; omega, hjl⟩⟩
            obtain ⟨u, hu⟩ := hcond
            have h8 : decide (8 < (j : Int)) = true ∨ decide (8 < (j : Int)) = false := by cases decide (8 < (j : Int)) <;> simp
            have h2 : ((j : Int) % 2 == 0) = true ∨ ((j : Int) % 2 == 0) = false := by cases ((j : Int) % 2 == 0) <;> simp
            cases u with
            | true =>
              rcases hu with ⟨hjl, b1, ad, rfl, f0⟩ | ⟨hu, -, -⟩
              · rcases h8 with b2 | b2
                · have okT : (Two.mk [y] Vs' a b).Ok 2000 := ⟨fun z hz => by have h0 := S.out.good.x0; have h1 := S.out.good.xl; simp at hz; subst hz; omega, by rw [show (Two.mk [y] Vs' a b).a.c = 0 from oa.out.c]; omega, by rw [show (Two.mk [y] Vs' a b).b.c = 0 from ob.out.c]; omega, by simp; omega⟩
                  have okT := Lib.hid okT
                  go_wp2_with (refine (StayLaw.stepA T.out hpaB hne okT.out (by omega) (by omega)).mono ?_)
                  all_goals
                    rintro e w9 ⟨rfl, t9, hb9, kk9⟩
                    have t9 : TwoAt w1.heap.size sb p pa pb v (n' + stepN [y] a) ⟨[stepX y Vs' a], stepV Vs' a, stepP [y] Vs' a, b⟩ w9 := by
                      have e := stepC_X y Vs' a oa.out.c
                      unfold Two.sA at t9
                      simp only [e] at t9
                      exact t9
                    obtain ⟨S9, P9, Q9⟩ := StayLaw.step S.out oa.out (by omega)
                    have t9 := Lib.hid t9
                    have C9 := Lib.hid (C.out.trans hb9)
                    have X9 := Lib.hid (kk9 _ _ X.out)
                    have hN9 := stepN01 [y] a
                    have hV9 := stepV_length Vs' a
                    have oo9 := Lib.hid (Q9 _ ob.out)
                    have S9 := Lib.hid S9
                    have P9 := Lib.hid P9
                    generalize (Two.mk [y] Vs' a b).sA.a.done = dn9
                    generalize stepN [y] a = m9 at *
                    generalize stepX y Vs' a = y9 at *
                    generalize stepV Vs' a = Vs9 at *
                    generalize stepP [y] Vs' a = p9 at *
                    clear hb9 S T C oa ob okT Q9 X kk9
                    have oa := P9
                    have ob := oo9
                    have S := S9
                    have T := t9
                    have C := C9
                    have X := X9
                    clear P9 oo9 S9 t9 C9 X9
                    have okU : (Two.mk [y9] Vs9 p9 b).Ok 2000 := ⟨fun z hz => by have h0 := S.out.good.x0; have h1 := S.out.good.xl; simp at hz; subst hz; omega, by rw [show (Two.mk [y9] Vs9 p9 b).a.c = 0 from oa.out.c]; omega, by rw [show (Two.mk [y9] Vs9 p9 b).b.c = 0 from ob.out.c]; omega, by simp; omega⟩
                    have okU := Lib.hid okU
                    go_wp2_with (refine (StayLaw.stepB T.out hpbB hne okU.out (by omega) (by omega)).mono ?_)
                    all_goals
                      rintro e w10 ⟨rfl, u9, hb10, kk10⟩
                      have u9 : TwoAt w1.heap.size sb p pa pb v (n' + m9 + stepN [y9] b) ⟨[stepX y9 Vs9 b], stepV Vs9 b, p9, stepP [y9] Vs9 b⟩ w10 := by
                        have e := stepC_X y9 Vs9 b ob.out.c
                        unfold Two.sB at u9
                        simp only [e] at u9
                        exact u9
                      obtain ⟨R9, P10, Q10⟩ := StayLaw.step S.out ob.out (by omega)
                      have u9 := Lib.hid u9
                      have D9 := Lib.hid (C.out.trans hb10)
                      have Y9 := Lib.hid (kk10 _ _ X.out)
                      have hN10 := stepN01 [y9] b
                      have hV10 := stepV_length Vs9 b
                      have oo10 := Lib.hid (Q10 _ oa.out)
                      have R9 := Lib.hid R9
                      have P10 := Lib.hid P10
                      generalize (Two.mk [y9] Vs9 p9 b).sB.b.done = dn10
                      generalize stepN [y9] b = m10 at *
                      generalize stepX y9 Vs9 b = y10 at *
                      generalize stepV Vs9 b = Vs10 at *
                      generalize stepP [y9] Vs9 b = p10 at *
                      clear hb10 S T C oa ob okU Q10 X kk10
                      have OA := oo10
                      have OB := P10
                      have SS := R9
                      have TT := u9
                      have CC := D9
                      have XX := Y9
                      go_wp2
                      go_roundw
                      case rel => exact ⟨j + 1, y10, Vs10, p9, p10, n' + m9 + m10, by omega, by go_num, by omega, by omega, by omega, OA, OB, SS, TT, XX, CC⟩
                      case measure => simp [intOf]; omega
                · have okT : (Two.mk [y] Vs' a b).Ok 2000 := ⟨fun z hz => by have h0 := S.out.good.x0; have h1 := S.out.good.xl; simp at hz; subst hz; omega, by rw [show (Two.mk [y] Vs' a b).a.c = 0 from oa.out.c]; omega, by rw [show (Two.mk [y] Vs' a b).b.c = 0 from ob.out.c]; omega, by simp; omega⟩
                  have okT := Lib.hid okT
                  go_wp2_with (refine (StayLaw.stepA T.out hpaB hne okT.out (by omega) (by omega)).mono ?_)
                  all_goals
                    rintro e w9 ⟨rfl, t9, hb9, kk9⟩
                    have t9 : TwoAt w1.heap.size sb p pa pb v (n' + stepN [y] a) ⟨[stepX y Vs' a], stepV Vs' a, stepP [y] Vs' a, b⟩ w9 := by
                      have e := stepC_X y Vs' a oa.out.c
                      unfold Two.sA at t9
                      simp only [e] at t9
                      exact t9
                    obtain ⟨S9, P9, Q9⟩ := StayLaw.step S.out oa.out (by omega)
                    have t9 := Lib.hid t9
                    have C9 := Lib.hid (C.out.trans hb9)
                    have X9 := Lib.hid (kk9 _ _ X.out)
                    have hN9 := stepN01 [y] a
                    have hV9 := stepV_length Vs' a
                    have oo9 := Lib.hid (Q9 _ ob.out)
                    have S9 := Lib.hid S9
                    have P9 := Lib.hid P9
                    generalize (Two.mk [y] Vs' a b).sA.a.done = dn9
                    generalize stepN [y] a = m9 at *
                    generalize stepX y Vs' a = y9 at *
                    generalize stepV Vs' a = Vs9 at *
                    generalize stepP [y] Vs' a = p9 at *
                    clear hb9 S T C oa ob okT Q9 X kk9
                    have OA := P9
                    have OB := oo9
                    have SS := S9
                    have TT := t9
                    have CC := C9
                    have XX := X9
                    go_wp2
                    go_roundw
                    case rel => exact ⟨j + 1, y9, Vs9, p9, b, n' + m9, by omega, by go_num, by omega, by omega, by omega, OA, OB, SS, TT, XX, CC⟩
                    case measure => simp [intOf]; omega
              · cases hu
            | false =>
              rcases h2 with b3 | b3
              · rcases hu with ⟨hjl, b1, ad, rfl, f0⟩ | ⟨-, b1, hnj⟩
                all_goals
                  have okT : (Two.mk [y] Vs' a b).Ok 2000 := ⟨fun z hz => by have h0 := S.out.good.x0; have h1 := S.out.good.xl; simp at hz; subst hz; omega, by rw [show (Two.mk [y] Vs' a b).a.c = 0 from oa.out.c]; omega, by rw [show (Two.mk [y] Vs' a b).b.c = 0 from ob.out.c]; omega, by simp; omega⟩
                  have okT := Lib.hid okT
                  go_wp2_with (refine (StayLaw.stepA T.out hpaB hne okT.out (by omega) (by omega)).mono ?_)
                  all_goals
                    rintro e w9 ⟨rfl, t9, hb9, kk9⟩
                    have t9 : TwoAt w1.heap.size sb p pa pb v (n' + stepN [y] a) ⟨[stepX y Vs' a], stepV Vs' a, stepP [y] Vs' a, b⟩ w9 := by
                      have e := stepC_X y Vs' a oa.out.c
                      unfold Two.sA at t9
                      simp only [e] at t9
                      exact t9
                    obtain ⟨S9, P9, Q9⟩ := StayLaw.step S.out oa.out (by omega)
                    have t9 := Lib.hid t9
                    have C9 := Lib.hid (C.out.trans hb9)
                    have X9 := Lib.hid (kk9 _ _ X.out)
                    have hN9 := stepN01 [y] a
                    have hV9 := stepV_length Vs' a
                    have oo9 := Lib.hid (Q9 _ ob.out)
                    have S9 := Lib.hid S9
                    have P9 := Lib.hid P9
                    generalize (Two.mk [y] Vs' a b).sA.a.done = dn9
                    generalize stepN [y] a = m9 at *
                    generalize stepX y Vs' a = y9 at *
                    generalize stepV Vs' a = Vs9 at *
                    generalize stepP [y] Vs' a = p9 at *
                    clear hb9 S T C oa ob okT Q9 X kk9
                    have oa := P9
                    have ob := oo9
                    have S := S9
                    have T := t9
                    have C := C9
                    have X := X9
                    clear P9 oo9 S9 t9 C9 X9
                    have okU : (Two.mk [y9] Vs9 p9 b).Ok 2000 := ⟨fun z hz => by have h0 := S.out.good.x0; have h1 := S.out.good.xl; simp at hz; subst hz; omega, by rw [show (Two.mk [y9] Vs9 p9 b).a.c = 0 from oa.out.c]; omega, by rw [show (Two.mk [y9] Vs9 p9 b).b.c = 0 from ob.out.c]; omega, by simp; omega⟩
                    have okU := Lib.hid okU
                    go_wp2_with (refine (StayLaw.stepB T.out hpbB hne okU.out (by omega) (by omega)).mono ?_)
                    all_goals
                      rintro e w10 ⟨rfl, u9, hb10, kk10⟩
                      have u9 : TwoAt w1.heap.size sb p pa pb v (n' + m9 + stepN [y9] b) ⟨[stepX y9 Vs9 b], stepV Vs9 b, p9, stepP [y9] Vs9 b⟩ w10 := by
                        have e := stepC_X y9 Vs9 b ob.out.c
                        unfold Two.sB at u9
                        simp only [e] at u9
                        exact u9
                      obtain ⟨R9, P10, Q10⟩ := StayLaw.step S.out ob.out (by omega)
                      have u9 := Lib.hid u9
                      have D9 := Lib.hid (C.out.trans hb10)
                      have Y9 := Lib.hid (kk10 _ _ X.out)
                      have hN10 := stepN01 [y9] b
                      have hV10 := stepV_length Vs9 b
                      have oo10 := Lib.hid (Q10 _ oa.out)
                      have R9 := Lib.hid R9
                      have P10 := Lib.hid P10
                      generalize (Two.mk [y9] Vs9 p9 b).sB.b.done = dn10
                      generalize stepN [y9] b = m10 at *
                      generalize stepX y9 Vs9 b = y10 at *
                      generalize stepV Vs9 b = Vs10 at *
                      generalize stepP [y9] Vs9 b = p10 at *
                      clear hb10 S T C oa ob okU Q10 X kk10
                      have OA := oo10
                      have OB := P10
                      have SS := R9
                      have TT := u9
                      have CC := D9
                      have XX := Y9
                      go_wp2
                      go_roundw
                      case rel => exact ⟨j + 1, y10, Vs10, p9, p10, n' + m9 + m10, by omega, by go_num, by omega, by omega, by omega, OA, OB, SS, TT, XX, CC⟩
                      case measure => simp [intOf]; omega
              · rcases hu with ⟨hjl, b1, ad, rfl, f0⟩ | ⟨-, b1, hnj⟩
                all_goals
                  have okT : (Two.mk [y] Vs' a b).Ok 2000 := ⟨fun z hz => by have h0 := S.out.good.x0; have h1 := S.out.good.xl; simp at hz; subst hz; omega, by rw [show (Two.mk [y] Vs' a b).a.c = 0 from oa.out.c]; omega, by rw [show (Two.mk [y] Vs' a b).b.c = 0 from ob.out.c]; omega, by simp; omega⟩
                  have okT := Lib.hid okT
                  go_wp2_with (refine (StayLaw.stepB T.out hpbB hne okT.out (by omega) (by omega)).mono ?_)
                  all_goals
                    rintro e w9 ⟨rfl, t9, hb9, kk9⟩
                    have t9 : TwoAt w1.heap.size sb p pa pb v (n' + stepN [y] b) ⟨[stepX y Vs' b], stepV Vs' b, a, stepP [y] Vs' b⟩ w9 := by
                      have e := stepC_X y Vs' b ob.out.c
                      unfold Two.sB at t9
                      simp only [e] at t9
                      exact t9
                    obtain ⟨S9, P9, Q9⟩ := StayLaw.step S.out ob.out (by omega)
                    have t9 := Lib.hid t9
                    have C9 := Lib.hid (C.out.trans hb9)
                    have X9 := Lib.hid (kk9 _ _ X.out)
                    have hN9 := stepN01 [y] b
                    have hV9 := stepV_length Vs' b
                    have oo9 := Lib.hid (Q9 _ oa.out)
                    have S9 := Lib.hid S9
                    have P9 := Lib.hid P9
                    generalize (Two.mk [y] Vs' a b).sB.b.done = dn9
                    generalize stepN [y] b = m9 at *
                    generalize stepX y Vs' b = y9 at *
                    generalize stepV Vs' b = Vs9 at *
                    generalize stepP [y] Vs' b = p9 at *
                    clear hb9 S T C oa ob okT Q9 X kk9
                    have OA := oo9
                    have OB := P9
                    have SS := S9
                    have TT := t9
                    have CC := C9
                    have XX := X9
                    go_wp2
                    go_roundw
                    case rel => exact ⟨j + 1, y9, Vs9, a, p9, n' + m9, by omega, by go_num, by omega, by omega, by omega, OA, OB, SS, TT, XX, CC⟩
                    case measure => simp [intOf]; omega
          · have b0 : decide ((j : Int) < 12) = false := by simp; omega
            obtain rfl : j = 12 := by omega
            obtain ⟨vs9, g1, g2, g3, g4⟩ := T.out
            have g1 := Lib.hid g1
            have hac2 := Lib.hid S.out.good.ac
            have hrg2 := Lib.hid S.out.good.rg
            have hy0 := S.out.good.x0
            have hyl := S.out.good.xl
            have hwl := S.out.wl
            have hge := S.out.ge
            have hwr := Lib.hid S.out.wr
            have heq := Lib.hid S.out.eq
            clear T oa ob g2 g3
            go_wp2_with fail
            refine (Mem.peek g1.out.mem 0 (by omega) (by omega)).mono ?_
            rintro e w9 ⟨rfl, m9, o9⟩
            dsimp only
            rw [rd1, show errAt [y] 0 = 0 by simp [errAt, inR]]
            have h9 := Lib.hid (g1.out.mems m9 o9)
            have C9 := Lib.hid (C.out.trans (footB g1.out.mem o9 g4))
            have q9 := C9.out.size
            have nX : ¬ Foot p v jx := fun hf => by
              have hk := X.out
              unfold KvAt at hk
              rcases hf with e | e
              · have h1 := g1.out.mem.blk; rw [← e, hk] at h1; cases h1
              · rcases g1.out.mem.own.2 with ⟨h2, _⟩ | ⟨g, cap, cur, hg, hb, hgg, _⟩
                · rw [h2] at e; cases e
                · rw [hg] at e; cases e; rw [hgg] at hk; cases hk
            have X9 : KvAt jx #[.string (kvK A0), .string (kvV A0), .int .i64 (kvR A0)] w9 := (o9.block _ (lt_of_heap X.out) nX).trans X.out
            have X9 := Lib.hid X9
            clear m9 o9 g1 C X
            go_wp2_with fail
            refine (at_ h9.out hac2.out hrg2.out y (r0) (by omega) (by omega) (by first | omega | (dsimp only; omega))).mono ?_
            rintro e w10 ⟨rfl, hb10⟩
            dsimp only
            rw [heq.out]
            rw [kv_eq]
            have hbx := hb10.trans ((al9 w10 (.cells #[.string (kvK A0), .string (kvV A0), .int .i64 (kvR A0)] 63)).mono hb10.size)
            have N11 := heap_alloc_new w10 (.cells #[.string (kvK A0), .string (kvV A0), .int .i64 (kvR A0)] 63)
            have h11 := Lib.hid (h9.out.below hbx)
            have X11 := Lib.hid (X9.out.below hbx)
            have C11 := Lib.hid (C9.out.trans (hbx.mono q9))
            have q11 := C11.out.size
            obtain ⟨z0, z1, z2⟩ := kv3 N11
            obtain ⟨z3, z4, z5⟩ := kv3 X11.out
            clear hbx hb10 h9 C9 N11 X9
            go_wp2_with fail
            refine (Chain.rev h11.out y (by omega) (by first | omega | (dsimp only; omega))).mono ?_
            rintro e w12 ⟨rfl, hb12⟩
            dsimp only
            have h12 := Lib.hid (h11.out.below hb12)
            have X12 := Lib.hid (X11.out.below hb12)
            have C12 := Lib.hid (C11.out.trans (hb12.mono q11))
            have q12 := C12.out.size
            clear hb12 h11 X11 C11 z0 z1 z2 z3 z4 z5
            go_wp2_with fail
            refine (Chain.rev h12.out x (by omega) (by first | omega | (dsimp only; omega))).mono ?_
            rintro e w13 ⟨rfl, hb13⟩
            dsimp only
            rw [hwr.out]
            have h13 : Hid (∃ vs, StoreAt w1.heap.size sb p v [y] n' vs Vs' w13) := Lib.hid ⟨vs9, h12.out.below hb13⟩
            have X13 := Lib.hid (X12.out.below hb13)
            have C13 := Lib.hid (C12.out.trans (hb13.mono q12))
            have hcmp : decide ((ofV Vs' y).rev < r0) = false := by simp; omega
            clear hb13 h12 X12 C12
            go_wp2
            go_roundw
            case rel => exact ⟨k + 1, y, Vs', n', by omega, by omega, by go_num, by omega, by omega, by omega, S, h13, X13, C13⟩
            case measure => simp [intOf]; omega
      · have fin := Lib.hid (B1.out.trans (C7.out.mono q1))
        have hcond : (decide ((k : Int) < es.length) = true ∧ decide ((k : Int) < 40) = false) ∨ decide ((k : Int) < es.length) = false := by
          by_cases h : k < es.length
          · exact .inl ⟨by simp; omega, by simp; omega⟩
          · exact .inr (by simp; omega)
        clear S7 h7 X7 C7
        rcases hcond with ⟨b1, b2⟩ | b1
        all_goals
          go_wp2
          all_goals
            go_ret
            exact ⟨rfl, fin.out⟩
  · go_wp2_with (refine (Chain.rev h3.out x (by omega) (by omega)).mono ?_)
    rintro e w4 ⟨rfl, hb4⟩
    have h4 := Lib.hid (h3.out.below hb4)
    have C4 := Lib.hid (C3.out.trans (hb4.mono q3))
    have q4 := C4.out.size
    clear hb4 h3 C3
    generalize hr0 : (ofV Vs x).rev = r0 at *
    have hr0 := Lib.hid hr0
    go_wp2_with fail
    refine (at_ h4.out hac.out hrg.out x (rev) (by omega) (by omega) (by omega)).mono ?_
    rintro e w5 ⟨rfl, hb5⟩
    generalize hA0 : atR Vs x (rev) = A0 at *
    have S5 := Lib.hid (show Stay x r0 (rev) A0 x Vs from ⟨hg.out, hxl, hr0.out, by rw [hr0.out]; omega, by omega, hA0⟩)
    rw [kv_eq]
    clear hA0
    have hbx := hb5.trans ((al9 w5 (.cells #[.string (kvK A0), .string (kvV A0), .int .i64 (kvR A0)] 63)).mono hb5.size)
    have X6 := Lib.hid (show KvAt w5.heap.size #[.string (kvK A0), .string (kvV A0), .int .i64 (kvR A0)] _ from heap_alloc_new w5 (.cells #[.string (kvK A0), .string (kvV A0), .int .i64 (kvR A0)] 63))
    have h6 := Lib.hid (h4.out.below hbx)
    have C6 := Lib.hid (C4.out.trans (hbx.mono q4))
    clear hbx hb5 h4 C4
    go_wp2_with fail
    generalize (w5.alloc (.cells #[.string (kvK A0), .string (kvV A0), .int .i64 (kvR A0)] 63)) = w6 at *
    generalize w5.heap.size = jx at *
    have h6' : Hid (∃ vs, StoreAt w1.heap.size sb p v [x] n vs Vs w6) := Lib.hid ⟨vs, h6.out⟩
    go_loopw [17] (fun i wr => ∃ (k : Nat) (y : Int) (Vs' : List Ver) (n' : Int), k ≤ es.length ∧ k ≤ 40 ∧ i = .int .i64 k ∧ 0 ≤ n' ∧ n' ≤ 400 + 24 * k ∧ Vs'.length ≤ 40 + 24 * k ∧ Hid (Stay x r0 (rev) A0 y Vs') ∧ Hid (∃ vs, StoreAt w1.heap.size sb p v [y] n' vs Vs' wr) ∧ Hid (KvAt jx #[.string (kvK A0), .string (kvV A0), .int .i64 (kvR A0)] wr) ∧ Hid (Below w1.heap.size w1 wr))
      (fun i _ => 40 - (intOf i).toNat)
    case atStart => exact ⟨0, x, Vs, n, by omega, by omega, rfl, by omega, by omega, by omega, S5, h6', X6, C6⟩
    case round =>
      clear S5 h6' h6 X6 C6
      obtain ⟨k, y0, V7, n7, hk, hk40, rfl, hm0, hm1, hvl7, S7, h7, X7, C7⟩ := hrel
      by_cases hlt : k < es.length ∧ k < 40
      · obtain ⟨hlt, hlt40⟩ := hlt
        obtain ⟨ad, rfl, hre, hxb, hcell⟩ := eventCells hE.out hlt
        have e1 : decide ((k : Int) < es.length) = true := by simp; omega
        have e2 : decide ((k : Int) < 40) = true := by simp; omega
        have q7 := C7.out.size
        have hcell := Lib.hid hcell
        obtain ⟨f0, f1, f2, f3⟩ := hcell.out wr (B1.out.trans (C7.out.mono q1))
        generalize eventOf (es.getD k []) = ev at *
        have hre := Lib.hid hre
        obtain ⟨vs7, h7'⟩ := h7.out
        have h7' := Lib.hid h7'
        go_wp2_with fail
        refine (Chain.put sb wr 0 ev.rev ev.key ev.val ev.del).mono ?_
        rintro e wa ⟨pa, rfl, pa7, la7, hba⟩
        have ha7 := Lib.hid (h7'.out.below hba)
        have Xa := Lib.hid (X7.out.below hba)
        have Ca := Lib.hid (C7.out.trans (hba.mono q7))
        have qa := Ca.out.size
        have qra := hba.size
        have hpa := lt_of_heap pa7
        have pa7 := Lib.hid pa7
        obtain ⟨f0', f1', f2', f3'⟩ := hcell.out wa (B1.out.trans (Ca.out.mono q1))
        clear f0 f1 f2 f3 hba h7 h7' X7 C7
        go_wp2_with fail
        refine (Chain.put sb wa 0 ev.rev ev.key ev.val ev.del).mono ?_
        rintro e wb ⟨pb, rfl, pb7, lb7, hbb⟩
        have C8 := Lib.hid (Ca.out.trans (hbb.mono qa))
        have T8 : TwoAt w1.heap.size sb p pa pb v n7 ⟨[y0], V7, ⟨0, ev.rev, ev.key, ev.val, ev.del, 0, false, false⟩, ⟨0, ev.rev, ev.key, ev.val, ev.del, 0, false, false⟩⟩ wb := ⟨vs7, ha7.out.below hbb, pa7.out.below hbb, pb7, C8.out.size⟩
        have T8 := Lib.hid T8
        have X8 := Lib.hid (Xa.out.below hbb)
        have oa8 : On V7 ⟨0, ev.rev, ev.key, ev.val, ev.del, 0, false, false⟩ := ⟨rfl, hre.out, by simp, fun h => by simp at h⟩
        have oa8 := Lib.hid oa8
        have ob8 := oa8
        have hne : pa ≠ pb := by omega
        have hpaB : w1.heap.size ≤ pa := by omega
        have hpbB : w1.heap.size ≤ pb := by omega
        clear f0' f1' f2' f3' hbb ha7 pa7 pb7 Xa Ca hcell
        go_wp2_with fail
        go_loopw [20] (fun i wr => ∃ (j : Nat) (y : Int) (Vs' : List Ver) (a b : PutS) (n' : Int), j ≤ 12 ∧ i = .int .i64 j ∧ 0 ≤ n' ∧ n' ≤ 400 + 24 * k + 2 * j ∧ Vs'.length ≤ 40 + 24 * k + 2 * j ∧ Hid (On Vs' a) ∧ Hid (On Vs' b) ∧ Hid (Stay x r0 (rev) A0 y Vs') ∧ Hid (TwoAt w1.heap.size sb p pa pb v n' ⟨[y], Vs', a, b⟩ wr) ∧ Hid (KvAt jx #[.string (kvK A0), .string (kvV A0), .int .i64 (kvR A0)] wr) ∧ Hid (Below w1.heap.size w1 wr))
          (fun i _ => 12 - (intOf i).toNat)
        case atStart => exact ⟨0, y0, V7, _, _, n7, by omega, rfl, by omega, by omega, by omega, oa8, ob8, S7, T8, X8, C8⟩
        case round =>
          clear T8 oa8 ob8 X8 C8 S7
          obtain ⟨j, y, Vs', a, b, n', hj, rfl, hn2, hn3, hvl2, oa, ob, S, T, X, C⟩ := hrel
          by_cases hj12 : j < 12
          · have b0 : decide ((j : Int) < 12) = true := by simp; omega
            have hcond : ∃ u : Bool, (j < bs.length ∧ decide ((j : Int) < bs.length) = true ∧ ∃ (ad : Addr), A = some ad ∧ wr.cell? (ad.add j) = some (.bool u)) ∨ (u = false ∧ decide ((j : Int) < bs.length) = false ∧ ¬ j < bs.length) := by
              by_cases hjl : j < bs.length
              · obtain ⟨ad, bb, had, hxb, hcell⟩ := boolCell hU.out hjl
                exact ⟨bb, .inl ⟨hjl, by simp; omega, ad, had, hcell wr (B1.out.trans (C.out.mono q1))⟩⟩
              · exact ⟨false, .inr ⟨rfl, by simp; omega, hjl⟩⟩
            obtain ⟨u, hu⟩ := hcond
            have h8 : decide (8 < (j : Int)) = true ∨ decide (8 < (j : Int)) = false := by cases decide (8 < (j : Int)) <;> simp
            have h2 : ((j : Int) % 2 == 0) = true ∨ ((j : Int) % 2 == 0) = false := by cases ((j : Int) % 2 == 0) <;> simp
            cases u with
            | true =>
              rcases hu with ⟨hjl, b1, ad, rfl, f0⟩ | ⟨hu, -, -⟩
              · rcases h8 with b2 | b2
                · have okT : (Two.mk [y] Vs' a b).Ok 2000 := ⟨fun z hz => by have h0 := S.out.good.x0; have h1 := S.out.good.xl; simp at hz; subst hz; omega, by rw [show (Two.mk [y] Vs' a b).a.c = 0 from oa.out.c]; omega, by rw [show (Two.mk [y] Vs' a b).b.c = 0 from ob.out.c]; omega, by simp; omega⟩
                  have okT := Lib.hid okT
                  go_wp2_with (refine (StayLaw.stepA T.out hpaB hne okT.out (by omega) (by omega)).mono ?_)
                  all_goals
                    rintro e w9 ⟨rfl, t9, hb9, kk9⟩
                    have t9 : TwoAt w1.heap.size sb p pa pb v (n' + stepN [y] a) ⟨[stepX y Vs' a], stepV Vs' a, stepP [y] Vs' a, b⟩ w9 := by
                      have e := stepC_X y Vs' a oa.out.c
                      unfold Two.sA at t9
                      simp only [e] at t9
                      exact t9
                    obtain ⟨S9, P9, Q9⟩ := StayLaw.step S.out oa.out (by omega)
                    have t9 := Lib.hid t9
                    have C9 := Lib.hid (C.out.trans hb9)
                    have X9 := Lib.hid (kk9 _ _ X.out)
                    have hN9 := stepN01 [y] a
                    have hV9 := stepV_length Vs' a
                    have oo9 := Lib.hid (Q9 _ ob.out)
                    have S9 := Lib.hid S9
                    have P9 := Lib.hid P9
                    generalize (Two.mk [y] Vs' a b).sA.a.done = dn9
                    generalize stepN [y] a = m9 at *
                    generalize stepX y Vs' a = y9 at *
                    generalize stepV Vs' a = Vs9 at *
                    generalize stepP [y] Vs' a = p9 at *
                    clear hb9 S T C oa ob okT Q9 X kk9
                    have oa := P9
                    have ob := oo9
                    have S := S9
                    have T := t9
                    have C := C9
                    have X := X9
                    clear P9 oo9 S9 t9 C9 X9
                    have okU : (Two.mk [y9] Vs9 p9 b).Ok 2000 := ⟨fun z hz => by have h0 := S.out.good.x0; have h1 := S.out.good.xl; simp at hz; subst hz; omega, by rw [show (Two.mk [y9] Vs9 p9 b).a.c = 0 from oa.out.c]; omega, by rw [show (Two.mk [y9] Vs9 p9 b).b.c = 0 from ob.out.c]; omega, by simp; omega⟩
                    have okU := Lib.hid okU
                    go_wp2_with (refine (StayLaw.stepB T.out hpbB hne okU.out (by omega) (by omega)).mono ?_)
                    all_goals
                      rintro e w10 ⟨rfl, u9, hb10, kk10⟩
                      have u9 : TwoAt w1.heap.size sb p pa pb v (n' + m9 + stepN [y9] b) ⟨[stepX y9 Vs9 b], stepV Vs9 b, p9, stepP [y9] Vs9 b⟩ w10 := by
                        have e := stepC_X y9 Vs9 b ob.out.c
                        unfold Two.sB at u9
                        simp only [e] at u9
                        exact u9
                      obtain ⟨R9, P10, Q10⟩ := StayLaw.step S.out ob.out (by omega)
                      have u9 := Lib.hid u9
                      have D9 := Lib.hid (C.out.trans hb10)
                      have Y9 := Lib.hid (kk10 _ _ X.out)
                      have hN10 := stepN01 [y9] b
                      have hV10 := stepV_length Vs9 b
                      have oo10 := Lib.hid (Q10 _ oa.out)
                      have R9 := Lib.hid R9
                      have P10 := Lib.hid P10
                      generalize (Two.mk [y9] Vs9 p9 b).sB.b.done = dn10
                      generalize stepN [y9] b = m10 at *
                      generalize stepX y9 Vs9 b = y10 at *
                      generalize stepV Vs9 b = Vs10 at *
                      generalize stepP [y9] Vs9 b = p10 at *
                      clear hb10 S T C oa ob okU Q10 X kk10
                      have OA := oo10
                      have OB := P10
                      have SS := R9
                      have TT := u9
                      have CC := D9
                      have XX := Y9
                      go_wp2
                      go_roundw
                      case rel => exact ⟨j + 1, y10, Vs10, p9, p10, n' + m9 + m10, by omega, by go_num, by omega, by omega, by omega, OA, OB, SS, TT, XX, CC⟩
                      case measure => simp [intOf]; omega
                · have okT : (Two.mk [y] Vs' a b).Ok 2000 := ⟨fun z hz => by have h0 := S.out.good.x0; have h1 := S.out.good.xl; simp at hz; subst hz; omega, by rw [show (Two.mk [y] Vs' a b).a.c = 0 from oa.out.c]; omega, by rw [show (Two.mk [y] Vs' a b).b.c = 0 from ob.out.c]; omega, by simp; omega⟩
                  have okT := Lib.hid okT
                  go_wp2_with (refine (StayLaw.stepA T.out hpaB hne okT.out (by omega) (by omega)).mono ?_)
                  all_goals
                    rintro e w9 ⟨rfl, t9, hb9, kk9⟩
                    have t9 : TwoAt w1.heap.size sb p pa pb v (n' + stepN [y] a) ⟨[stepX y Vs' a], stepV Vs' a, stepP [y] Vs' a, b⟩ w9 := by
                      have e := stepC_X y Vs' a oa.out.c
                      unfold Two.sA at t9
                      simp only [e] at t9
                      exact t9
                    obtain ⟨S9, P9, Q9⟩ := StayLaw.step S.out oa.out (by omega)
                    have t9 := Lib.hid t9
                    have C9 := Lib.hid (C.out.trans hb9)
                    have X9 := Lib.hid (kk9 _ _ X.out)
                    have hN9 := stepN01 [y] a
                    have hV9 := stepV_length Vs' a
                    have oo9 := Lib.hid (Q9 _ ob.out)
                    have S9 := Lib.hid S9
                    have P9 := Lib.hid P9
                    generalize (Two.mk [y] Vs' a b).sA.a.done = dn9
                    generalize stepN [y] a = m9 at *
                    generalize stepX y Vs' a = y9 at *
                    generalize stepV Vs' a = Vs9 at *
                    generalize stepP [y] Vs' a = p9 at *
                    clear hb9 S T C oa ob okT Q9 X kk9
                    have OA := P9
                    have OB := oo9
                    have SS := S9
                    have TT := t9
                    have CC := C9
                    have XX := X9
                    go_wp2
                    go_roundw
                    case rel => exact ⟨j + 1, y9, Vs9, p9, b, n' + m9, by omega, by go_num, by omega, by omega, by omega, OA, OB, SS, TT, XX, CC⟩
                    case measure => simp [intOf]; omega
              · cases hu
            | false =>
              rcases h2 with b3 | b3
              · rcases hu with ⟨hjl, b1, ad, rfl, f0⟩ | ⟨-, b1, hnj⟩
                all_goals
                  have okT : (Two.mk [y] Vs' a b).Ok 2000 := ⟨fun z hz => by have h0 := S.out.good.x0; have h1 := S.out.good.xl; simp at hz; subst hz; omega, by rw [show (Two.mk [y] Vs' a b).a.c = 0 from oa.out.c]; omega, by rw [show (Two.mk [y] Vs' a b).b.c = 0 from ob.out.c]; omega, by simp; omega⟩
                  have okT := Lib.hid okT
                  go_wp2_with (refine (StayLaw.stepA T.out hpaB hne okT.out (by omega) (by omega)).mono ?_)
                  all_goals
                    rintro e w9 ⟨rfl, t9, hb9, kk9⟩
                    have t9 : TwoAt w1.heap.size sb p pa pb v (n' + stepN [y] a) ⟨[stepX y Vs' a], stepV Vs' a, stepP [y] Vs' a, b⟩ w9 := by
                      have e := stepC_X y Vs' a oa.out.c
                      unfold Two.sA at t9
                      simp only [e] at t9
                      exact t9
                    obtain ⟨S9, P9, Q9⟩ := StayLaw.step S.out oa.out (by omega)
                    have t9 := Lib.hid t9
                    have C9 := Lib.hid (C.out.trans hb9)
                    have X9 := Lib.hid (kk9 _ _ X.out)
                    have hN9 := stepN01 [y] a
                    have hV9 := stepV_length Vs' a
                    have oo9 := Lib.hid (Q9 _ ob.out)
                    have S9 := Lib.hid S9
                    have P9 := Lib.hid P9
                    generalize (Two.mk [y] Vs' a b).sA.a.done = dn9
                    generalize stepN [y] a = m9 at *
                    generalize stepX y Vs' a = y9 at *
                    generalize stepV Vs' a = Vs9 at *
                    generalize stepP [y] Vs' a = p9 at *
                    clear hb9 S T C oa ob okT Q9 X kk9
                    have oa := P9
                    have ob := oo9
                    have S := S9
                    have T := t9
                    have C := C9
                    have X := X9
                    clear P9 oo9 S9 t9 C9 X9
                    have okU : (Two.mk [y9] Vs9 p9 b).Ok 2000 := ⟨fun z hz => by have h0 := S.out.good.x0; have h1 := S.out.good.xl; simp at hz; subst hz; omega, by rw [show (Two.mk [y9] Vs9 p9 b).a.c = 0 from oa.out.c]; omega, by rw [show (Two.mk [y9] Vs9 p9 b).b.c = 0 from ob.out.c]; omega, by simp; omega⟩
                    have okU := Lib.hid okU
                    go_wp2_with (refine (StayLaw.stepB T.out hpbB hne okU.out (by omega) (by omega)).mono ?_)
                    all_goals
                      rintro e w10 ⟨rfl, u9, hb10, kk10⟩
                      have u9 : TwoAt w1.heap.size sb p pa pb v (n' + m9 + stepN [y9] b) ⟨[stepX y9 Vs9 b], stepV Vs9 b, p9, stepP [y9] Vs9 b⟩ w10 := by
                        have e := stepC_X y9 Vs9 b ob.out.c
                        unfold Two.sB at u9
                        simp only [e] at u9
                        exact u9
                      obtain ⟨R9, P10, Q10⟩ := StayLaw.step S.out ob.out (by omega)
                      have u9 := Lib.hid u9
                      have D9 := Lib.hid (C.out.trans hb10)
                      have Y9 := Lib.hid (kk10 _ _ X.out)
                      have hN10 := stepN01 [y9] b
                      have hV10 := stepV_length Vs9 b
                      have oo10 := Lib.hid (Q10 _ oa.out)
                      have R9 := Lib.hid R9
                      have P10 := Lib.hid P10
                      generalize (Two.mk [y9] Vs9 p9 b).sB.b.done = dn10
                      generalize stepN [y9] b = m10 at *
                      generalize stepX y9 Vs9 b = y10 at *
                      generalize stepV Vs9 b = Vs10 at *
                      generalize stepP [y9] Vs9 b = p10 at *
                      clear hb10 S T C oa ob okU Q10 X kk10
                      have OA := oo10
                      have OB := P10
                      have SS := R9
                      have TT := u9
                      have CC := D9
                      have XX := Y9
                      go_wp2
                      go_roundw
                      case rel => exact ⟨j + 1, y10, Vs10, p9, p10, n' + m9 + m10, by omega, by go_num, by omega, by omega, by omega, OA, OB, SS, TT, XX, CC⟩
                      case measure => simp [intOf]; omega
              · rcases hu with ⟨hjl, b1, ad, rfl, f0⟩ | ⟨-, b1, hnj⟩
                all_goals
                  have okT : (Two.mk [y] Vs' a b).Ok 2000 := ⟨fun z hz => by have h0 := S.out.good.x0; have h1 := S.out.good.xl; simp at hz; subst hz; omega, by rw [show (Two.mk [y] Vs' a b).a.c = 0 from oa.out.c]; omega, by rw [show (Two.mk [y] Vs' a b).b.c = 0 from ob.out.c]; omega, by simp; omega⟩
                  have okT := Lib.hid okT
                  go_wp2_with (refine (StayLaw.stepB T.out hpbB hne okT.out (by omega) (by omega)).mono ?_)
                  all_goals
                    rintro e w9 ⟨rfl, t9, hb9, kk9⟩
                    have t9 : TwoAt w1.heap.size sb p pa pb v (n' + stepN [y] b) ⟨[stepX y Vs' b], stepV Vs' b, a, stepP [y] Vs' b⟩ w9 := by
                      have e := stepC_X y Vs' b ob.out.c
                      unfold Two.sB at t9
                      simp only [e] at t9
                      exact t9
                    obtain ⟨S9, P9, Q9⟩ := StayLaw.step S.out ob.out (by omega)
                    have t9 := Lib.hid t9
                    have C9 := Lib.hid (C.out.trans hb9)
                    have X9 := Lib.hid (kk9 _ _ X.out)
                    have hN9 := stepN01 [y] b
                    have hV9 := stepV_length Vs' b
                    have oo9 := Lib.hid (Q9 _ oa.out)
                    have S9 := Lib.hid S9
                    have P9 := Lib.hid P9
                    generalize (Two.mk [y] Vs' a b).sB.b.done = dn9
                    generalize stepN [y] b = m9 at *
                    generalize stepX y Vs' b = y9 at *
                    generalize stepV Vs' b = Vs9 at *
                    generalize stepP [y] Vs' b = p9 at *
                    clear hb9 S T C oa ob okT Q9 X kk9
                    have OA := oo9
                    have OB := P9
                    have SS := S9
                    have TT := t9
                    have CC := C9
                    have XX := X9
                    go_wp2
                    go_roundw
                    case rel => exact ⟨j + 1, y9, Vs9, a, p9, n' + m9, by omega, by go_num, by omega, by omega, by omega, OA, OB, SS, TT, XX, CC⟩
                    case measure => simp [intOf]; omega
          · have b0 : decide ((j : Int) < 12) = false := by simp; omega
            obtain rfl : j = 12 := by omega
            obtain ⟨vs9, g1, g2, g3, g4⟩ := T.out
            have g1 := Lib.hid g1
            have hac2 := Lib.hid S.out.good.ac
            have hrg2 := Lib.hid S.out.good.rg
            have hy0 := S.out.good.x0
            have hyl := S.out.good.xl
            have hwl := S.out.wl
            have hge := S.out.ge
            have hwr := Lib.hid S.out.wr
            have heq := Lib.hid S.out.eq
            clear T oa ob g2 g3
            go_wp2_with fail
            refine (Mem.peek g1.out.mem 0 (by omega) (by omega)).mono ?_
            rintro e w9 ⟨rfl, m9, o9⟩
            dsimp only
            rw [rd1, show errAt [y] 0 = 0 by simp [errAt, inR]]
            have h9 := Lib.hid (g1.out.mems m9 o9)
            have C9 := Lib.hid (C.out.trans (footB g1.out.mem o9 g4))
            have q9 := C9.out.size
            have nX : ¬ Foot p v jx := fun hf => by
              have hk := X.out
              unfold KvAt at hk
              rcases hf with e | e
              · have h1 := g1.out.mem.blk; rw [← e, hk] at h1; cases h1
              · rcases g1.out.mem.own.2 with ⟨h2, _⟩ | ⟨g, cap, cur, hg, hb, hgg, _⟩
                · rw [h2] at e; cases e
                · rw [hg] at e; cases e; rw [hgg] at hk; cases hk
            have X9 : KvAt jx #[.string (kvK A0), .string (kvV A0), .int .i64 (kvR A0)] w9 := (o9.block _ (lt_of_heap X.out) nX).trans X.out
            have X9 := Lib.hid X9
            clear m9 o9 g1 C X
            go_wp2_with fail
            refine (at_ h9.out hac2.out hrg2.out y (rev) (by omega) (by omega) (by first | omega | (dsimp only; omega))).mono ?_
            rintro e w10 ⟨rfl, hb10⟩
            dsimp only
            rw [heq.out]
            rw [kv_eq]
            have hbx := hb10.trans ((al9 w10 (.cells #[.string (kvK A0), .string (kvV A0), .int .i64 (kvR A0)] 63)).mono hb10.size)
            have N11 := heap_alloc_new w10 (.cells #[.string (kvK A0), .string (kvV A0), .int .i64 (kvR A0)] 63)
            have h11 := Lib.hid (h9.out.below hbx)
            have X11 := Lib.hid (X9.out.below hbx)
            have C11 := Lib.hid (C9.out.trans (hbx.mono q9))
            have q11 := C11.out.size
            obtain ⟨z0, z1, z2⟩ := kv3 N11
            obtain ⟨z3, z4, z5⟩ := kv3 X11.out
            clear hbx hb10 h9 C9 N11 X9
            go_wp2_with fail
            refine (Chain.rev h11.out y (by omega) (by first | omega | (dsimp only; omega))).mono ?_
            rintro e w12 ⟨rfl, hb12⟩
            dsimp only
            have h12 := Lib.hid (h11.out.below hb12)
            have X12 := Lib.hid (X11.out.below hb12)
            have C12 := Lib.hid (C11.out.trans (hb12.mono q11))
            have q12 := C12.out.size
            clear hb12 h11 X11 C11 z0 z1 z2 z3 z4 z5
            go_wp2_with fail
            refine (Chain.rev h12.out x (by omega) (by first | omega | (dsimp only; omega))).mono ?_
            rintro e w13 ⟨rfl, hb13⟩
            dsimp only
            rw [hwr.out]
            have h13 : Hid (∃ vs, StoreAt w1.heap.size sb p v [y] n' vs Vs' w13) := Lib.hid ⟨vs9, h12.out.below hb13⟩
            have X13 := Lib.hid (X12.out.below hb13)
            have C13 := Lib.hid (C12.out.trans (hb13.mono q12))
            have hcmp : decide ((ofV Vs' y).rev < r0) = false := by simp; omega
            clear hb13 h12 X12 C12
            go_wp2
            go_roundw
            case rel => exact ⟨k + 1, y, Vs', n', by omega, by omega, by go_num, by omega, by omega, by omega, S, h13, X13, C13⟩
            case measure => simp [intOf]; omega
      · have fin := Lib.hid (B1.out.trans (C7.out.mono q1))
        have hcond : (decide ((k : Int) < es.length) = true ∧ decide ((k : Int) < 40) = false) ∨ decide ((k : Int) < es.length) = false := by
          by_cases h : k < es.length
          · exact .inl ⟨by simp; omega, by simp; omega⟩
          · exact .inr (by simp; omega)
        clear S7 h7 X7 C7
        rcases hcond with ⟨b1, b2⟩ | b1
        all_goals
          go_wp2
          all_goals
            go_ret
            exact ⟨rfl, fin.out⟩
  · go_wp2_with (refine (Chain.rev h3.out x (by omega) (by omega)).mono ?_)
    rintro e w4 ⟨rfl, hb4⟩
    have h4 := Lib.hid (h3.out.below hb4)
    have C4 := Lib.hid (C3.out.trans (hb4.mono q3))
    have q4 := C4.out.size
    clear hb4 h3 C3
    generalize hr0 : (ofV Vs x).rev = r0 at *
    have hr0 := Lib.hid hr0
    go_wp2_with fail
    refine (at_ h4.out hac.out hrg.out x (r0) (by omega) (by omega) (by omega)).mono ?_
    rintro e w5 ⟨rfl, hb5⟩
    generalize hA0 : atR Vs x (r0) = A0 at *
    have S5 := Lib.hid (show Stay x r0 (r0) A0 x Vs from ⟨hg.out, hxl, hr0.out, by rw [hr0.out]; omega, by omega, hA0⟩)
    rw [kv_eq]
    clear hA0
    have hbx := hb5.trans ((al9 w5 (.cells #[.string (kvK A0), .string (kvV A0), .int .i64 (kvR A0)] 63)).mono hb5.size)
    have X6 := Lib.hid (show KvAt w5.heap.size #[.string (kvK A0), .string (kvV A0), .int .i64 (kvR A0)] _ from heap_alloc_new w5 (.cells #[.string (kvK A0), .string (kvV A0), .int .i64 (kvR A0)] 63))
    have h6 := Lib.hid (h4.out.below hbx)
    have C6 := Lib.hid (C4.out.trans (hbx.mono q4))
    clear hbx hb5 h4 C4
    go_wp2_with fail
    generalize (w5.alloc (.cells #[.string (kvK A0), .string (kvV A0), .int .i64 (kvR A0)] 63)) = w6 at *
    generalize w5.heap.size = jx at *
    have h6' : Hid (∃ vs, StoreAt w1.heap.size sb p v [x] n vs Vs w6) := Lib.hid ⟨vs, h6.out⟩
    go_loopw [17] (fun i wr => ∃ (k : Nat) (y : Int) (Vs' : List Ver) (n' : Int), k ≤ es.length ∧ k ≤ 40 ∧ i = .int .i64 k ∧ 0 ≤ n' ∧ n' ≤ 400 + 24 * k ∧ Vs'.length ≤ 40 + 24 * k ∧ Hid (Stay x r0 (r0) A0 y Vs') ∧ Hid (∃ vs, StoreAt w1.heap.size sb p v [y] n' vs Vs' wr) ∧ Hid (KvAt jx #[.string (kvK A0), .string (kvV A0), .int .i64 (kvR A0)] wr) ∧ Hid (Below w1.heap.size w1 wr))
      (fun i _ => 40 - (intOf i).toNat)
    case atStart => exact ⟨0, x, Vs, n, by omega, by omega, rfl, by omega, by omega, by omega, S5, h6', X6, C6⟩
    case round =>
      clear S5 h6' h6 X6 C6
      obtain ⟨k, y0, V7, n7, hk, hk40, rfl, hm0, hm1, hvl7, S7, h7, X7, C7⟩ := hrel
      by_cases hlt : k < es.length ∧ k < 40
      · obtain ⟨hlt, hlt40⟩ := hlt
        obtain ⟨ad, rfl, hre, hxb, hcell⟩ := eventCells hE.out hlt
        have e1 : decide ((k : Int) < es.length) = true := by simp; omega
        have e2 : decide ((k : Int) < 40) = true := by simp; omega
        have q7 := C7.out.size
        have hcell := Lib.hid hcell
        obtain ⟨f0, f1, f2, f3⟩ := hcell.out wr (B1.out.trans (C7.out.mono q1))
        generalize eventOf (es.getD k []) = ev at *
        have hre := Lib.hid hre
        obtain ⟨vs7, h7'⟩ := h7.out
        have h7' := Lib.hid h7'
        go_wp2_with fail
        refine (Chain.put sb wr 0 ev.rev ev.key ev.val ev.del).mono ?_
        rintro e wa ⟨pa, rfl, pa7, la7, hba⟩
        have ha7 := Lib.hid (h7'.out.below hba)
        have Xa := Lib.hid (X7.out.below hba)
        have Ca := Lib.hid (C7.out.trans (hba.mono q7))
        have qa := Ca.out.size
        have qra := hba.size
        have hpa := lt_of_heap pa7
        have pa7 := Lib.hid pa7
        obtain ⟨f0', f1', f2', f3'⟩ := hcell.out wa (B1.out.trans (Ca.out.mono q1))
        clear f0 f1 f2 f3 hba h7 h7' X7 C7
        go_wp2_with fail
        refine (Chain.put sb wa 0 ev.rev ev.key ev.val ev.del).mono ?_
        rintro e wb ⟨pb, rfl, pb7, lb7, hbb⟩
        have C8 := Lib.hid (Ca.out.trans (hbb.mono qa))
        have T8 : TwoAt w1.heap.size sb p pa pb v n7 ⟨[y0], V7, ⟨0, ev.rev, ev.key, ev.val, ev.del, 0, false, false⟩, ⟨0, ev.rev, ev.key, ev.val, ev.del, 0, false, false⟩⟩ wb := ⟨vs7, ha7.out.below hbb, pa7.out.below hbb, pb7, C8.out.size⟩
        have T8 := Lib.hid T8
        have X8 := Lib.hid (Xa.out.below hbb)
        have oa8 : On V7 ⟨0, ev.rev, ev.key, ev.val, ev.del, 0, false, false⟩ := ⟨rfl, hre.out, by simp, fun h => by simp at h⟩
        have oa8 := Lib.hid oa8
        have ob8 := oa8
        have hne : pa ≠ pb := by omega
        have hpaB : w1.heap.size ≤ pa := by omega
        have hpbB : w1.heap.size ≤ pb := by omega
        clear f0' f1' f2' f3' hbb ha7 pa7 pb7 Xa Ca hcell
        go_wp2_with fail
        go_loopw [20] (fun i wr => ∃ (j : Nat) (y : Int) (Vs' : List Ver) (a b : PutS) (n' : Int), j ≤ 12 ∧ i = .int .i64 j ∧ 0 ≤ n' ∧ n' ≤ 400 + 24 * k + 2 * j ∧ Vs'.length ≤ 40 + 24 * k + 2 * j ∧ Hid (On Vs' a) ∧ Hid (On Vs' b) ∧ Hid (Stay x r0 (r0) A0 y Vs') ∧ Hid (TwoAt w1.heap.size sb p pa pb v n' ⟨[y], Vs', a, b⟩ wr) ∧ Hid (KvAt jx #[.string (kvK A0), .string (kvV A0), .int .i64 (kvR A0)] wr) ∧ Hid (Below w1.heap.size w1 wr))
          (fun i _ => 12 - (intOf i).toNat)
        case atStart => exact ⟨0, y0, V7, _, _, n7, by omega, rfl, by omega, by omega, by omega, oa8, ob8, S7, T8, X8, C8⟩
        case round =>
          clear T8 oa8 ob8 X8 C8 S7
          obtain ⟨j, y, Vs', a, b, n', hj, rfl, hn2, hn3, hvl2, oa, ob, S, T, X, C⟩ := hrel
          by_cases hj12 : j < 12
          · have b0 : decide ((j : Int) < 12) = true := by simp; omega
            have hcond : ∃ u : Bool, (j < bs.length ∧ decide ((j : Int) < bs.length) = true ∧ ∃ (ad : Addr), A = some ad ∧ wr.cell? (ad.add j) = some (.bool u)) ∨ (u = false ∧ decide ((j : Int) < bs.length) = false ∧ ¬ j < bs.length) := by
              by_cases hjl : j < bs.length
              · obtain ⟨ad, bb, had, hxb, hcell⟩ := boolCell hU.out hjl
                exact ⟨bb, .inl ⟨hjl, by simp; omega, ad, had, hcell wr (B1.out.trans (C.out.mono q1))⟩⟩
              · exact ⟨false, .inr ⟨rfl, by simp; omega, hjl⟩⟩
            obtain ⟨u, hu⟩ := hcond
            have h8 : decide (8 < (j : Int)) = true ∨ decide (8 < (j : Int)) = false := by cases decide (8 < (j : Int)) <;> simp
            have h2 : ((j : Int) % 2 == 0) = true ∨ ((j : Int) % 2 == 0) = false := by cases ((j : Int) % 2 == 0) <;> simp
            cases u with
            | true =>
              rcases hu with ⟨hjl, b1, ad, rfl, f0⟩ | ⟨hu, -, -⟩
              · rcases h8 with b2 | b2
                · have okT : (Two.mk [y] Vs' a b).Ok 2000 := ⟨fun z hz => by have h0 := S.out.good.x0; have h1 := S.out.good.xl; simp at hz; subst hz; omega, by rw [show (Two.mk [y] Vs' a b).a.c = 0 from oa.out.c]; omega, by rw [show (Two.mk [y] Vs' a b).b.c = 0 from ob.out.c]; omega, by simp; omega⟩
                  have okT := Lib.hid okT
                  go_wp2_with (refine (StayLaw.stepA T.out hpaB hne okT.out (by omega) (by omega)).mono ?_)
                  all_goals
                    rintro e w9 ⟨rfl, t9, hb9, kk9⟩
                    have t9 : TwoAt w1.heap.size sb p pa pb v (n' + stepN [y] a) ⟨[stepX y Vs' a], stepV Vs' a, stepP [y] Vs' a, b⟩ w9 := by
                      have e := stepC_X y Vs' a oa.out.c
                      unfold Two.sA at t9
                      simp only [e] at t9
                      exact t9
                    obtain ⟨S9, P9, Q9⟩ := StayLaw.step S.out oa.out (by omega)
                    have t9 := Lib.hid t9
                    have C9 := Lib.hid (C.out.trans hb9)
                    have X9 := Lib.hid (kk9 _ _ X.out)
                    have hN9 := stepN01 [y] a
                    have hV9 := stepV_length Vs' a
                    have oo9 := Lib.hid (Q9 _ ob.out)
                    have S9 := Lib.hid S9
                    have P9 := Lib.hid P9
                    generalize (Two.mk [y] Vs' a b).sA.a.done = dn9
                    generalize stepN [y] a = m9 at *
                    generalize stepX y Vs' a = y9 at *
                    generalize stepV Vs' a = Vs9 at *
                    generalize stepP [y] Vs' a = p9 at *
                    clear hb9 S T C oa ob okT Q9 X kk9
                    have oa := P9
                    have ob := oo9
                    have S := S9
                    have T := t9
                    have C := C9
                    have X := X9
                    clear P9 oo9 S9 t9 C9 X9
                    have okU : (Two.mk [y9] Vs9 p9 b).Ok 2000 := ⟨fun z hz => by have h0 := S.out.good.x0; have h1 := S.out.good.xl; simp at hz; subst hz; omega, by rw [show (Two.mk [y9] Vs9 p9 b).a.c = 0 from oa.out.c]; omega, by rw [show (Two.mk [y9] Vs9 p9 b).b.c = 0 from ob.out.c]; omega, by simp; omega⟩
                    have okU := Lib.hid okU
                    go_wp2_with (refine (StayLaw.stepB T.out hpbB hne okU.out (by omega) (by omega)).mono ?_)
                    all_goals
                      rintro e w10 ⟨rfl, u9, hb10, kk10⟩
                      have u9 : TwoAt w1.heap.size sb p pa pb v (n' + m9 + stepN [y9] b) ⟨[stepX y9 Vs9 b], stepV Vs9 b, p9, stepP [y9] Vs9 b⟩ w10 := by
                        have e := stepC_X y9 Vs9 b ob.out.c
                        unfold Two.sB at u9
                        simp only [e] at u9
                        exact u9
                      obtain ⟨R9, P10, Q10⟩ := StayLaw.step S.out ob.out (by omega)
                      have u9 := Lib.hid u9
                      have D9 := Lib.hid (C.out.trans hb10)
                      have Y9 := Lib.hid (kk10 _ _ X.out)
                      have hN10 := stepN01 [y9] b
                      have hV10 := stepV_length Vs9 b
                      have oo10 := Lib.hid (Q10 _ oa.out)
                      have R9 := Lib.hid R9
                      have P10 := Lib.hid P10
                      generalize (Two.mk [y9] Vs9 p9 b).sB.b.done = dn10
                      generalize stepN [y9] b = m10 at *
                      generalize stepX y9 Vs9 b = y10 at *
                      generalize stepV Vs9 b = Vs10 at *
                      generalize stepP [y9] Vs9 b = p10 at *
                      clear hb10 S T C oa ob okU Q10 X kk10
                      have OA := oo10
                      have OB := P10
                      have SS := R9
                      have TT := u9
                      have CC := D9
                      have XX := Y9
                      go_wp2
                      go_roundw
                      case rel => exact ⟨j + 1, y10, Vs10, p9, p10, n' + m9 + m10, by omega, by go_num, by omega, by omega, by omega, OA, OB, SS, TT, XX, CC⟩
                      case measure => simp [intOf]; omega
                · have okT : (Two.mk [y] Vs' a b).Ok 2000 := ⟨fun z hz => by have h0 := S.out.good.x0; have h1 := S.out.good.xl; simp at hz; subst hz; omega, by rw [show (Two.mk [y] Vs' a b).a.c = 0 from oa.out.c]; omega, by rw [show (Two.mk [y] Vs' a b).b.c = 0 from ob.out.c]; omega, by simp; omega⟩
                  have okT := Lib.hid okT
                  go_wp2_with (refine (StayLaw.stepA T.out hpaB hne okT.out (by omega) (by omega)).mono ?_)
                  all_goals
                    rintro e w9 ⟨rfl, t9, hb9, kk9⟩
                    have t9 : TwoAt w1.heap.size sb p pa pb v (n' + stepN [y] a) ⟨[stepX y Vs' a], stepV Vs' a, stepP [y] Vs' a, b⟩ w9 := by
                      have e := stepC_X y Vs' a oa.out.c
                      unfold Two.sA at t9
                      simp only [e] at t9
                      exact t9
                    obtain ⟨S9, P9, Q9⟩ := StayLaw.step S.out oa.out (by omega)
                    have t9 := Lib.hid t9
                    have C9 := Lib.hid (C.out.trans hb9)
                    have X9 := Lib.hid (kk9 _ _ X.out)
                    have hN9 := stepN01 [y] a
                    have hV9 := stepV_length Vs' a
                    have oo9 := Lib.hid (Q9 _ ob.out)
                    have S9 := Lib.hid S9
                    have P9 := Lib.hid P9
                    generalize (Two.mk [y] Vs' a b).sA.a.done = dn9
                    generalize stepN [y] a = m9 at *
                    generalize stepX y Vs' a = y9 at *
                    generalize stepV Vs' a = Vs9 at *
                    generalize stepP [y] Vs' a = p9 at *
                    clear hb9 S T C oa ob okT Q9 X kk9
                    have OA := P9
                    have OB := oo9
                    have SS := S9
                    have TT := t9
                    have CC := C9
                    have XX := X9
                    go_wp2
                    go_roundw
                    case rel => exact ⟨j + 1, y9, Vs9, p9, b, n' + m9, by omega, by go_num, by omega, by omega, by omega, OA, OB, SS, TT, XX, CC⟩
                    case measure => simp [intOf]; omega
              · cases hu
            | false =>
              rcases h2 with b3 | b3
              · rcases hu with ⟨hjl, b1, ad, rfl, f0⟩ | ⟨-, b1, hnj⟩
                all_goals
                  have okT : (Two.mk [y] Vs' a b).Ok 2000 := ⟨fun z hz => by have h0 := S.out.good.x0; have h1 := S.out.good.xl; simp at hz; subst hz; omega, by rw [show (Two.mk [y] Vs' a b).a.c = 0 from oa.out.c]; omega, by rw [show (Two.mk [y] Vs' a b).b.c = 0 from ob.out.c]; omega, by simp; omega⟩
                  have okT := Lib.hid okT
                  go_wp2_with (refine (StayLaw.stepA T.out hpaB hne okT.out (by omega) (by omega)).mono ?_)
                  all_goals
                    rintro e w9 ⟨rfl, t9, hb9, kk9⟩
                    have t9 : TwoAt w1.heap.size sb p pa pb v (n' + stepN [y] a) ⟨[stepX y Vs' a], stepV Vs' a, stepP [y] Vs' a, b⟩ w9 := by
                      have e := stepC_X y Vs' a oa.out.c
                      unfold Two.sA at t9
                      simp only [e] at t9
                      exact t9
                    obtain ⟨S9, P9, Q9⟩ := StayLaw.step S.out oa.out (by omega)
                    have t9 := Lib.hid t9
                    have C9 := Lib.hid (C.out.trans hb9)
                    have X9 := Lib.hid (kk9 _ _ X.out)
                    have hN9 := stepN01 [y] a
                    have hV9 := stepV_length Vs' a
                    have oo9 := Lib.hid (Q9 _ ob.out)
                    have S9 := Lib.hid S9
                    have P9 := Lib.hid P9
                    generalize (Two.mk [y] Vs' a b).sA.a.done = dn9
                    generalize stepN [y] a = m9 at *
                    generalize stepX y Vs' a = y9 at *
                    generalize stepV Vs' a = Vs9 at *
                    generalize stepP [y] Vs' a = p9 at *
                    clear hb9 S T C oa ob okT Q9 X kk9
                    have oa := P9
                    have ob := oo9
                    have S := S9
                    have T := t9
                    have C := C9
                    have X := X9
                    clear P9 oo9 S9 t9 C9 X9
                    have okU : (Two.mk [y9] Vs9 p9 b).Ok 2000 := ⟨fun z hz => by have h0 := S.out.good.x0; have h1 := S.out.good.xl; simp at hz; subst hz; omega, by rw [show (Two.mk [y9] Vs9 p9 b).a.c = 0 from oa.out.c]; omega, by rw [show (Two.mk [y9] Vs9 p9 b).b.c = 0 from ob.out.c]; omega, by simp; omega⟩
                    have okU := Lib.hid okU
                    go_wp2_with (refine (StayLaw.stepB T.out hpbB hne okU.out (by omega) (by omega)).mono ?_)
                    all_goals
                      rintro e w10 ⟨rfl, u9, hb10, kk10⟩
                      have u9 : TwoAt w1.heap.size sb p pa pb v (n' + m9 + stepN [y9] b) ⟨[stepX y9 Vs9 b], stepV Vs9 b, p9, stepP [y9] Vs9 b⟩ w10 := by
                        have e := stepC_X y9 Vs9 b ob.out.c
                        unfold Two.sB at u9
                        simp only [e] at u9
                        exact u9
                      obtain ⟨R9, P10, Q10⟩ := StayLaw.step S.out ob.out (by omega)
                      have u9 := Lib.hid u9
                      have D9 := Lib.hid (C.out.trans hb10)
                      have Y9 := Lib.hid (kk10 _ _ X.out)
                      have hN10 := stepN01 [y9] b
                      have hV10 := stepV_length Vs9 b
                      have oo10 := Lib.hid (Q10 _ oa.out)
                      have R9 := Lib.hid R9
                      have P10 := Lib.hid P10
                      generalize (Two.mk [y9] Vs9 p9 b).sB.b.done = dn10
                      generalize stepN [y9] b = m10 at *
                      generalize stepX y9 Vs9 b = y10 at *
                      generalize stepV Vs9 b = Vs10 at *
                      generalize stepP [y9] Vs9 b = p10 at *
                      clear hb10 S T C oa ob okU Q10 X kk10
                      have OA := oo10
                      have OB := P10
                      have SS := R9
                      have TT := u9
                      have CC := D9
                      have XX := Y9
                      go_wp2
                      go_roundw
                      case rel => exact ⟨j + 1, y10, Vs10, p9, p10, n' + m9 + m10, by omega, by go_num, by omega, by omega, by omega, OA, OB, SS, TT, XX, CC⟩
                      case measure => simp [intOf]; omega
              · rcases hu with ⟨hjl, b1, ad, rfl, f0⟩ | ⟨-, b1, hnj⟩
                all_goals
                  have okT : (Two.mk [y] Vs' a b).Ok 2000 := ⟨fun z hz => by have h0 := S.out.good.x0; have h1 := S.out.good.xl; simp at hz; subst hz; omega, by rw [show (Two.mk [y] Vs' a b).a.c = 0 from oa.out.c]; omega, by rw [show (Two.mk [y] Vs' a b).b.c = 0 from ob.out.c]; omega, by simp; omega⟩
                  have okT := Lib.hid okT
                  go_wp2_with (refine (StayLaw.stepB T.out hpbB hne okT.out (by omega) (by omega)).mono ?_)
                  all_goals
                    rintro e w9 ⟨rfl, t9, hb9, kk9⟩
                    have t9 : TwoAt w1.heap.size sb p pa pb v (n' + stepN [y] b) ⟨[stepX y Vs' b], stepV Vs' b, a, stepP [y] Vs' b⟩ w9 := by
                      have e := stepC_X y Vs' b ob.out.c
                      unfold Two.sB at t9
                      simp only [e] at t9
                      exact t9
                    obtain ⟨S9, P9, Q9⟩ := StayLaw.step S.out ob.out (by omega)
                    have t9 := Lib.hid t9
                    have C9 := Lib.hid (C.out.trans hb9)
                    have X9 := Lib.hid (kk9 _ _ X.out)
                    have hN9 := stepN01 [y] b
                    have hV9 := stepV_length Vs' b
                    have oo9 := Lib.hid (Q9 _ oa.out)
                    have S9 := Lib.hid S9
                    have P9 := Lib.hid P9
                    generalize (Two.mk [y] Vs' a b).sB.b.done = dn9
                    generalize stepN [y] b = m9 at *
                    generalize stepX y Vs' b = y9 at *
                    generalize stepV Vs' b = Vs9 at *
                    generalize stepP [y] Vs' b = p9 at *
                    clear hb9 S T C oa ob okT Q9 X kk9
                    have OA := oo9
                    have OB := P9
                    have SS := S9
                    have TT := t9
                    have CC := C9
                    have XX := X9
                    go_wp2
                    go_roundw
                    case rel => exact ⟨j + 1, y9, Vs9, a, p9, n' + m9, by omega, by go_num, by omega, by omega, by omega, OA, OB, SS, TT, XX, CC⟩
                    case measure => simp [intOf]; omega
          · have b0 : decide ((j : Int) < 12) = false := by simp; omega
            obtain rfl : j = 12 := by omega
            obtain ⟨vs9, g1, g2, g3, g4⟩ := T.out
            have g1 := Lib.hid g1
            have hac2 := Lib.hid S.out.good.ac
            have hrg2 := Lib.hid S.out.good.rg
            have hy0 := S.out.good.x0
            have hyl := S.out.good.xl
            have hwl := S.out.wl
            have hge := S.out.ge
            have hwr := Lib.hid S.out.wr
            have heq := Lib.hid S.out.eq
            clear T oa ob g2 g3
            go_wp2_with fail
            refine (Mem.peek g1.out.mem 0 (by omega) (by omega)).mono ?_
            rintro e w9 ⟨rfl, m9, o9⟩
            dsimp only
            rw [rd1, show errAt [y] 0 = 0 by simp [errAt, inR]]
            have h9 := Lib.hid (g1.out.mems m9 o9)
            have C9 := Lib.hid (C.out.trans (footB g1.out.mem o9 g4))
            have q9 := C9.out.size
            have nX : ¬ Foot p v jx := fun hf => by
              have hk := X.out
              unfold KvAt at hk
              rcases hf with e | e
              · have h1 := g1.out.mem.blk; rw [← e, hk] at h1; cases h1
              · rcases g1.out.mem.own.2 with ⟨h2, _⟩ | ⟨g, cap, cur, hg, hb, hgg, _⟩
                · rw [h2] at e; cases e
                · rw [hg] at e; cases e; rw [hgg] at hk; cases hk
            have X9 : KvAt jx #[.string (kvK A0), .string (kvV A0), .int .i64 (kvR A0)] w9 := (o9.block _ (lt_of_heap X.out) nX).trans X.out
            have X9 := Lib.hid X9
            clear m9 o9 g1 C X
            go_wp2_with fail
            refine (at_ h9.out hac2.out hrg2.out y (r0) (by omega) (by omega) (by first | omega | (dsimp only; omega))).mono ?_
            rintro e w10 ⟨rfl, hb10⟩
            dsimp only
            rw [heq.out]
            rw [kv_eq]
            have hbx := hb10.trans ((al9 w10 (.cells #[.string (kvK A0), .string (kvV A0), .int .i64 (kvR A0)] 63)).mono hb10.size)
            have N11 := heap_alloc_new w10 (.cells #[.string (kvK A0), .string (kvV A0), .int .i64 (kvR A0)] 63)
            have h11 := Lib.hid (h9.out.below hbx)
            have X11 := Lib.hid (X9.out.below hbx)
            have C11 := Lib.hid (C9.out.trans (hbx.mono q9))
            have q11 := C11.out.size
            obtain ⟨z0, z1, z2⟩ := kv3 N11
            obtain ⟨z3, z4, z5⟩ := kv3 X11.out
            clear hbx hb10 h9 C9 N11 X9
            go_wp2_with fail
            refine (Chain.rev h11.out y (by omega) (by first | omega | (dsimp only; omega))).mono ?_
            rintro e w12 ⟨rfl, hb12⟩
            dsimp only
            have h12 := Lib.hid (h11.out.below hb12)
            have X12 := Lib.hid (X11.out.below hb12)
            have C12 := Lib.hid (C11.out.trans (hb12.mono q11))
            have q12 := C12.out.size
            clear hb12 h11 X11 C11 z0 z1 z2 z3 z4 z5
            go_wp2_with fail
            refine (Chain.rev h12.out x (by omega) (by first | omega | (dsimp only; omega))).mono ?_
            rintro e w13 ⟨rfl, hb13⟩
            dsimp only
            rw [hwr.out]
            have h13 : Hid (∃ vs, StoreAt w1.heap.size sb p v [y] n' vs Vs' w13) := Lib.hid ⟨vs9, h12.out.below hb13⟩
            have X13 := Lib.hid (X12.out.below hb13)
            have C13 := Lib.hid (C12.out.trans (hb13.mono q12))
            have hcmp : decide ((ofV Vs' y).rev < r0) = false := by simp; omega
            clear hb13 h12 X12 C12
            go_wp2
            go_roundw
            case rel => exact ⟨k + 1, y, Vs', n', by omega, by omega, by go_num, by omega, by omega, by omega, S, h13, X13, C13⟩
            case measure => simp [intOf]; omega
      · have fin := Lib.hid (B1.out.trans (C7.out.mono q1))
        have hcond : (decide ((k : Int) < es.length) = true ∧ decide ((k : Int) < 40) = false) ∨ decide ((k : Int) < es.length) = false := by
          by_cases h : k < es.length
          · exact .inl ⟨by simp; omega, by simp; omega⟩
          · exact .inr (by simp; omega)
        clear S7 h7 X7 C7
        rcases hcond with ⟨b1, b2⟩ | b1
        all_goals
          go_wp2
          all_goals
            go_ret
            exact ⟨rfl, fin.out⟩
end Go.Proofs.Ytllibgjajlgnbab.WalkChainStays
