/- ChainTwo: two events of unlike revisions, put at once, are both there, or the later one alone. Laid by gentwo.py. -/
import Derived.Test.YtllibgjajlgnbabTwoLaw
import Derived.Test.YtllibgjajlgnbabWalkChainSteps
namespace Go.Proofs.Ytllibgjajlgnbab.WalkChainTwo
open Go Go.RowKit Go.Proofs.Ytllibgjajlgnbab.Only Go.Proofs.Ytllibgjajlgnbab.Mem Go.Proofs.Ytllibgjajlgnbab.New Go.Proofs.Ytllibgjajlgnbab.Chain Go.Proofs.Ytllibgjajlgnbab.Args Go.Proofs.Ytllibgjajlgnbab.TwoLaw Go.Proofs.Ytllibgjajlgnbab.WalkChainSteps
set_option linter.unusedVariables false
set_option linter.unusedSimpArgs false

set_option maxRecDepth 100000 in
theorem step_same {pb sb : Nat} {P : PutS} {w : World} (hp : PutAt pb sb P w) (hd : P.done = true) :
    Calls Try.prog 33 #[.pointer (some ⟨pb, 0, none⟩)] w fun e w' => e = .returned (.bool true) ∧ w = w' := by
  obtain ⟨⟨a0, a1, a2, a3, a4, a5, a6, a7, a8⟩, af⟩ := cell9 hp
  rw [hd] at a8
  clear hp
  go_enter Try.func33, Try.ntmps33
  go_wp2
  go_ret
  exact ⟨rfl, rfl⟩

theorem kv3 {w : World} {j : Nat} {c0 c1 c2 : Value} {T : TypeId} (h : w.heap[j]? = some (.cells #[c0, c1, c2] T (0, 0))) : w.cell? ⟨j, 0, none⟩ = some c0 ∧ w.cell? ⟨j, 1, none⟩ = some c1 ∧ w.cell? ⟨j, 2, none⟩ = some c2 := by
  simp [World.cell?, h]
theorem bx2 {w : World} {j : Nat} {c0 c1 : Value} {T : TypeId} (h : w.heap[j]? = some (.cells #[c0, c1] T (0, 0))) : w.cell? ⟨j, 0, none⟩ = some c0 ∧ w.cell? ⟨j, 1, none⟩ = some c1 := by
  simp [World.cell?, h]
def kvK (o : Option Ver) : ByteArray := match o with | some y => y.key | none => ⟨#[]⟩
def kvV (o : Option Ver) : ByteArray := match o with | some y => y.val | none => ⟨#[]⟩
def kvR (o : Option Ver) : Int := match o with | some y => y.rev | none => 0
theorem kv_eq (o : Option Ver) : kvOf o = .agg #[.string (kvK o), .string (kvV o), .int .i64 (kvR o)] := by
  cases o <;> rfl

set_option maxHeartbeats 8000000 in
set_option maxRecDepth 2000000 in
theorem walk (V : Value) (ds : List (List Value)) (s0 s1 : ByteArray) (U : Value) (bs : List (List Value)) (hs0 : s0.size ≤ 9223372036854775807) (hs1 : s1.size ≤ 9223372036854775807) (W : World) (hV : StructsV [.int .i64, .str, .str, .bool] W V ds) (hU : StructsV [.bool] W U bs) :
    Calls Try.prog 12 #[V, .agg #[.string s0, .string s1], U] W fun e w' => e = .returned (.bool true) ∧ Below W.heap.size W w' := by
  obtain ⟨A, cap, rfl, hl, -⟩ := hU.shape
  unfold maxLen at hl
  have hb0 := al9 W (.cells #[.string s0, .string s1] 88)
  have q0 := hb0.size
  have K0 := Lib.hid (heap_alloc_new W (.cells #[.string s0, .string s1] 88))
  have hV := Lib.hid (hV.below hb0)
  have hU := Lib.hid hU
  have hb0 := Lib.hid hb0
  go_enter Try.func12, Try.ntmps12
  go_wp2_with fail
  refine (Chain.awake _).mono ?_
  rintro e w1 ⟨rfl, hb1⟩
  have K1 := Lib.hid ((hb1.block _ (lt_of_heap K0.out)).trans K0.out)
  have hV1 := Lib.hid (hV.out.below hb1)
  have B1 := Lib.hid (hb0.out.trans (hb1.mono q0))
  have q1 := B1.out.size
  have k1 := lt_of_heap K1.out
  clear hb1 hb0 K0 q0 hV
  go_wp2_with fail
  refine (Chain.chained _ ds _ hV1.out).mono ?_
  rintro e w2 ⟨sb, p, v, vs, x, Vs, n, rfl, h2, hg, hvl, hn0, hn1, hb2⟩
  have C2 := Lib.hid hb2
  have q2 := hb2.size
  have h2 := Lib.hid h2
  have hg := Lib.hid hg
  clear hb2 hV1
  go_wp2_with fail
  refine (Mem.peek h2.out.mem 0 (by omega) (by omega)).mono ?_
  rintro e w3 ⟨rfl, m3, o3⟩
  rw [rd1, show errAt [x] 0 = 0 by simp [errAt, inR]]
  have h3 := Lib.hid (h2.out.mems m3 o3)
  have C3 := Lib.hid (C2.out.trans (footB h2.out.mem o3 q2))
  have q3 := C3.out.size
  have hx0 := hg.out.x0
  have hxl := hg.out.xl
  have hrr := ofV_rr hg.out.rr x
  clear m3 o3 h2 C2
  go_wp2_with fail
  refine (Chain.rev h3.out x (by omega) (by omega)).mono ?_
  rintro e w4 ⟨rfl, hb4⟩
  have h4 := Lib.hid (h3.out.below hb4)
  have C4 := Lib.hid (C3.out.trans (hb4.mono q3))
  have q4 := C4.out.size
  generalize hrv : (ofV Vs x).rev = r at *
  have hrv := Lib.hid hrv
  clear hb4 h3 C3
  have fin0 := Lib.hid (B1.out.trans (C4.out.mono q1))
  cases r0 : decide (r < 0) with
  | true =>
    go_wp2
    go_ret
    exact ⟨rfl, fin0.out⟩
  | false =>
  cases r1 : decide (1099511627776 < r) with
  | true =>
    go_wp2
    go_ret
    exact ⟨rfl, fin0.out⟩
  | false =>
  have r0' := of_decide_eq_false r0
  have r1' := of_decide_eq_false r1
  have K4 := (C4.out.block _ k1).trans K1.out
  obtain ⟨x0, x1⟩ := bx2 K4
  go_wp2_with fail
  refine (Chain.event (r + 1) s0 w4).mono ?_
  rintro e w5 ⟨rfl, hb5⟩
  have h5 := Lib.hid (h4.out.below hb5)
  have C5 := Lib.hid (C4.out.trans (hb5.mono q4))
  have q5 := C5.out.size
  clear hb5 h4 C4 K4 x0 x1
  go_wp2_with fail
  refine (Chain.put sb w5 0 (r + 1) ⟨#[107]⟩ s0 false).mono ?_
  rintro e w6 ⟨pa, rfl, p6, l6, hb6⟩
  have h6 := Lib.hid (h5.out.below hb6)
  have C6 := Lib.hid (C5.out.trans (hb6.mono q5))
  have q6 := C6.out.size
  have hpa := lt_of_heap p6
  have p6 := Lib.hid p6
  have K6 := (C6.out.block _ k1).trans K1.out
  obtain ⟨x0, x1⟩ := bx2 K6
  clear hb6 h5 C5
  go_wp2_with fail
  refine (Chain.event (r + 2) s1 w6).mono ?_
  rintro e w7 ⟨rfl, hb7⟩
  have h7 := Lib.hid (h6.out.below hb7)
  have p7 := Lib.hid (p6.out.below hb7)
  have C7 := Lib.hid (C6.out.trans (hb7.mono q6))
  have q7 := C7.out.size
  have q67 := hb7.size
  clear hb7 h6 C6 K6 x0 x1 p6
  go_wp2_with fail
  refine (Chain.put sb w7 0 (r + 2) ⟨#[107]⟩ s1 false).mono ?_
  rintro e w8 ⟨pb, rfl, p8, l8, hb8⟩
  have C8 := Lib.hid (C7.out.trans (hb8.mono q7))
  have T8 : TwoAt w1.heap.size sb p pa pb v n ⟨[x], Vs, ⟨0, r + 1, ⟨#[107]⟩, s0, false, 0, false, false⟩, ⟨0, r + 2, ⟨#[107]⟩, s1, false, 0, false, false⟩⟩ w8 := ⟨vs, h7.out.below hb8, p7.out.below hb8, p8, C8.out.size⟩
  have I8 : Inv x r s0 s1 x Vs ⟨0, r + 1, ⟨#[107]⟩, s0, false, 0, false, false⟩ ⟨0, r + 2, ⟨#[107]⟩, s1, false, 0, false, false⟩ := ⟨hg.out, hx0, hxl, hrv.out, .inl ⟨rfl, rfl, rfl⟩, ⟨rfl, rfl, rfl, rfl, rfl⟩, ⟨rfl, rfl, rfl, rfl, rfl⟩, fun h => by simp at h, fun h => by simp at h, by omega, by omega⟩
  have T8 := Lib.hid T8
  have I8 := Lib.hid I8
  have hne : pa ≠ pb := by omega
  have hpaB : w1.heap.size ≤ pa := by omega
  have hpbB : w1.heap.size ≤ pb := by omega
  clear hb8 h7 p7 p8 C7
  go_wp2_with fail
  go_loopw [16] (fun i wr => ∃ (k : Nat) (y : Int) (Vs' : List Ver) (a b : PutS) (n' : Int) (na nb : Nat), k ≤ 40 ∧ i = .int .i64 k ∧ 0 ≤ n' ∧ n' ≤ 400 + k ∧ Vs'.length ≤ 40 + k ∧ k ≤ 20 + 2 * na ∧ k ≤ 21 + 2 * nb ∧ Hid (a.done = true ∨ needs a b y + na ≤ 4) ∧ Hid (b.done = true ∨ needs b a y + nb ≤ 4) ∧ Hid (Inv x r s0 s1 y Vs' a b) ∧ Hid (TwoAt w1.heap.size sb p pa pb v n' ⟨[y], Vs', a, b⟩ wr) ∧ Hid (Below w1.heap.size w1 wr))
    (fun i _ => 40 - (intOf i).toNat)
  case atStart => exact ⟨0, x, Vs, _, _, n, 0, 0, by omega, rfl, by omega, by omega, by omega, by omega, by omega, Lib.hid (.inr (by simp [needs, need])), Lib.hid (.inr (by simp [needs, need])), I8, T8, C8⟩
  case round =>
    clear T8 I8 C8
    obtain ⟨k, y, Vs', a, b, n', na, nb, hk, rfl, hn2, hn3, hvl2, hna, hnb, ha, hb, I, T, C⟩ := hrel
    by_cases hlt : k < 40
    · have b0 : decide ((k : Int) < 40) = true := by simp; omega
      by_cases hk20 : k < 20
      · have b2 : decide ((k : Int) < 20) = true := by simp; omega
        have b3 : decide (20 ≤ (k : Int)) = false := by simp; omega
        by_cases hkl : k < bs.length
        · have b1 : decide ((k : Int) < bs.length) = true := by simp; omega
          obtain ⟨ad, bb, rfl, hxb, hcell⟩ := boolCell hU.out hkl
          have f0 := hcell wr (B1.out.trans (C.out.mono q1))
          clear hcell
          cases bb with
          | true =>
            have okT : (Two.mk [y] Vs' a b).Ok 90 := ⟨fun z hz => by have h0 := I.out.good.x0; have h1 := I.out.good.xl; simp at hz; subst hz; omega, by rw [show (Two.mk [y] Vs' a b).a.c = 0 from I.out.af.1]; omega, by rw [show (Two.mk [y] Vs' a b).b.c = 0 from I.out.bf.1]; omega, by simp; omega⟩
            have okT := Lib.hid okT
            go_wp2_with (refine (stepA T.out hpaB hne okT.out (by omega) (by omega)).mono ?_)
            all_goals
              rintro e w9 ⟨rfl, t9, hb9⟩
              have t9 : TwoAt w1.heap.size sb p pa pb v (n' + stepN [y] a) ⟨[stepX y Vs' a], stepV Vs' a, stepP [y] Vs' a, b⟩ w9 := by
                have e := stepC_X y Vs' a I.out.af.1
                unfold Two.sA at t9
                simp only [e] at t9
                exact t9
              have I9 := Lib.hid (invA I.out (by omega))
              have t9 := Lib.hid t9
              have C9 := Lib.hid (C.out.trans hb9)
              have hN := stepN01 [y] a
              have hV9 := stepV_length Vs' a
              have own : (stepP [y] Vs' a).done = true ∨ needs (stepP [y] Vs' a) b (stepX y Vs' a) + (na + 1) ≤ 4 := by
                cases hd : a.done with
                | true => left; unfold stepP; rw [if_pos hd]; exact hd
                | false =>
                  have q := needs_own y Vs' a b I.out.af.1 hd
                  rcases ha.out with h | h
                  · rw [hd] at h; cases h
                  · right; omega
              have oth : b.done = true ∨ needs b (stepP [y] Vs' a) (stepX y Vs' a) + nb ≤ 4 := hb.out.imp id (fun h => Nat.le_trans (Nat.add_le_add_right (needs_other y Vs' b a I.out.af.1) _) h)
              have own := Lib.hid own
              have oth := Lib.hid oth
              generalize (Two.mk [y] Vs' a b).sA.a.done = dn
              generalize stepN [y] a = m1 at *
              generalize stepX y Vs' a = y9 at *
              generalize stepV Vs' a = Vs9 at *
              generalize stepP [y] Vs' a = a9 at *
              clear hb9 I T C ha hb okT
              go_wp2
              go_roundw
              case rel => exact ⟨k + 1, y9, Vs9, a9, b, n' + m1, na + 1, nb, by omega, by go_num, by omega, by omega, by omega, by omega, by omega, own, oth, I9, t9, C9⟩
              case measure => simp [intOf]; omega
          | false =>
            have okT : (Two.mk [y] Vs' a b).Ok 90 := ⟨fun z hz => by have h0 := I.out.good.x0; have h1 := I.out.good.xl; simp at hz; subst hz; omega, by rw [show (Two.mk [y] Vs' a b).a.c = 0 from I.out.af.1]; omega, by rw [show (Two.mk [y] Vs' a b).b.c = 0 from I.out.bf.1]; omega, by simp; omega⟩
            have okT := Lib.hid okT
            go_wp2_with (refine (stepB T.out hpbB hne okT.out (by omega) (by omega)).mono ?_)
            all_goals
              rintro e w9 ⟨rfl, t9, hb9⟩
              have t9 : TwoAt w1.heap.size sb p pa pb v (n' + stepN [y] b) ⟨[stepX y Vs' b], stepV Vs' b, a, stepP [y] Vs' b⟩ w9 := by
                have e := stepC_X y Vs' b I.out.bf.1
                unfold Two.sB at t9
                simp only [e] at t9
                exact t9
              have I9 := Lib.hid (invB I.out (by omega))
              have t9 := Lib.hid t9
              have C9 := Lib.hid (C.out.trans hb9)
              have hN := stepN01 [y] b
              have hV9 := stepV_length Vs' b
              have own : (stepP [y] Vs' b).done = true ∨ needs (stepP [y] Vs' b) a (stepX y Vs' b) + (nb + 1) ≤ 4 := by
                cases hd : b.done with
                | true => left; unfold stepP; rw [if_pos hd]; exact hd
                | false =>
                  have q := needs_own y Vs' b a I.out.bf.1 hd
                  rcases hb.out with h | h
                  · rw [hd] at h; cases h
                  · right; omega
              have oth : a.done = true ∨ needs a (stepP [y] Vs' b) (stepX y Vs' b) + na ≤ 4 := ha.out.imp id (fun h => Nat.le_trans (Nat.add_le_add_right (needs_other y Vs' a b I.out.bf.1) _) h)
              have own := Lib.hid own
              have oth := Lib.hid oth
              generalize (Two.mk [y] Vs' a b).sB.b.done = dn
              generalize stepN [y] b = m1 at *
              generalize stepX y Vs' b = y9 at *
              generalize stepV Vs' b = Vs9 at *
              generalize stepP [y] Vs' b = b9 at *
              clear hb9 I T C ha hb okT
              go_wp2
              go_roundw
              case rel => exact ⟨k + 1, y9, Vs9, a, b9, n' + m1, na, nb + 1, by omega, by go_num, by omega, by omega, by omega, by omega, by omega, oth, own, I9, t9, C9⟩
              case measure => simp [intOf]; omega
        · have b1 : decide ((k : Int) < bs.length) = false := by simp; omega
          have okT : (Two.mk [y] Vs' a b).Ok 90 := ⟨fun z hz => by have h0 := I.out.good.x0; have h1 := I.out.good.xl; simp at hz; subst hz; omega, by rw [show (Two.mk [y] Vs' a b).a.c = 0 from I.out.af.1]; omega, by rw [show (Two.mk [y] Vs' a b).b.c = 0 from I.out.bf.1]; omega, by simp; omega⟩
          have okT := Lib.hid okT
          go_wp2_with (refine (stepB T.out hpbB hne okT.out (by omega) (by omega)).mono ?_)
          all_goals
            rintro e w9 ⟨rfl, t9, hb9⟩
            have t9 : TwoAt w1.heap.size sb p pa pb v (n' + stepN [y] b) ⟨[stepX y Vs' b], stepV Vs' b, a, stepP [y] Vs' b⟩ w9 := by
              have e := stepC_X y Vs' b I.out.bf.1
              unfold Two.sB at t9
              simp only [e] at t9
              exact t9
            have I9 := Lib.hid (invB I.out (by omega))
            have t9 := Lib.hid t9
            have C9 := Lib.hid (C.out.trans hb9)
            have hN := stepN01 [y] b
            have hV9 := stepV_length Vs' b
            have own : (stepP [y] Vs' b).done = true ∨ needs (stepP [y] Vs' b) a (stepX y Vs' b) + (nb + 1) ≤ 4 := by
              cases hd : b.done with
              | true => left; unfold stepP; rw [if_pos hd]; exact hd
              | false =>
                have q := needs_own y Vs' b a I.out.bf.1 hd
                rcases hb.out with h | h
                · rw [hd] at h; cases h
                · right; omega
            have oth : a.done = true ∨ needs a (stepP [y] Vs' b) (stepX y Vs' b) + na ≤ 4 := ha.out.imp id (fun h => Nat.le_trans (Nat.add_le_add_right (needs_other y Vs' a b I.out.bf.1) _) h)
            have own := Lib.hid own
            have oth := Lib.hid oth
            generalize (Two.mk [y] Vs' a b).sB.b.done = dn
            generalize stepN [y] b = m1 at *
            generalize stepX y Vs' b = y9 at *
            generalize stepV Vs' b = Vs9 at *
            generalize stepP [y] Vs' b = b9 at *
            clear hb9 I T C ha hb okT
            go_wp2
            go_roundw
            case rel => exact ⟨k + 1, y9, Vs9, a, b9, n' + m1, na, nb + 1, by omega, by go_num, by omega, by omega, by omega, by omega, by omega, oth, own, I9, t9, C9⟩
            case measure => simp [intOf]; omega
      · have b2 : decide ((k : Int) < 20) = false := by simp; omega
        have b3 : decide (20 ≤ (k : Int)) = true := by simp; omega
        have hkl : decide ((k : Int) < bs.length) = true ∨ decide ((k : Int) < bs.length) = false := by cases decide ((k : Int) < bs.length) <;> simp
        by_cases hp : k % 2 = 0
        · have b4 : ((k : Int) % 2 == 0) = true := by simp; omega
          rcases hkl with b1 | b1
          all_goals
            have okT : (Two.mk [y] Vs' a b).Ok 90 := ⟨fun z hz => by have h0 := I.out.good.x0; have h1 := I.out.good.xl; simp at hz; subst hz; omega, by rw [show (Two.mk [y] Vs' a b).a.c = 0 from I.out.af.1]; omega, by rw [show (Two.mk [y] Vs' a b).b.c = 0 from I.out.bf.1]; omega, by simp; omega⟩
            have okT := Lib.hid okT
            go_wp2_with (refine (stepA T.out hpaB hne okT.out (by omega) (by omega)).mono ?_)
            all_goals
              rintro e w9 ⟨rfl, t9, hb9⟩
              have t9 : TwoAt w1.heap.size sb p pa pb v (n' + stepN [y] a) ⟨[stepX y Vs' a], stepV Vs' a, stepP [y] Vs' a, b⟩ w9 := by
                have e := stepC_X y Vs' a I.out.af.1
                unfold Two.sA at t9
                simp only [e] at t9
                exact t9
              have I9 := Lib.hid (invA I.out (by omega))
              have t9 := Lib.hid t9
              have C9 := Lib.hid (C.out.trans hb9)
              have hN := stepN01 [y] a
              have hV9 := stepV_length Vs' a
              have own : (stepP [y] Vs' a).done = true ∨ needs (stepP [y] Vs' a) b (stepX y Vs' a) + (na + 1) ≤ 4 := by
                cases hd : a.done with
                | true => left; unfold stepP; rw [if_pos hd]; exact hd
                | false =>
                  have q := needs_own y Vs' a b I.out.af.1 hd
                  rcases ha.out with h | h
                  · rw [hd] at h; cases h
                  · right; omega
              have oth : b.done = true ∨ needs b (stepP [y] Vs' a) (stepX y Vs' a) + nb ≤ 4 := hb.out.imp id (fun h => Nat.le_trans (Nat.add_le_add_right (needs_other y Vs' b a I.out.af.1) _) h)
              have own := Lib.hid own
              have oth := Lib.hid oth
              generalize (Two.mk [y] Vs' a b).sA.a.done = dn
              generalize stepN [y] a = m1 at *
              generalize stepX y Vs' a = y9 at *
              generalize stepV Vs' a = Vs9 at *
              generalize stepP [y] Vs' a = a9 at *
              clear hb9 I T C ha hb okT
              go_wp2
              go_roundw
              case rel => exact ⟨k + 1, y9, Vs9, a9, b, n' + m1, na + 1, nb, by omega, by go_num, by omega, by omega, by omega, by omega, by omega, own, oth, I9, t9, C9⟩
              case measure => simp [intOf]; omega
        · have b4 : ((k : Int) % 2 == 0) = false := by simp; omega
          rcases hkl with b1 | b1
          all_goals
            have okT : (Two.mk [y] Vs' a b).Ok 90 := ⟨fun z hz => by have h0 := I.out.good.x0; have h1 := I.out.good.xl; simp at hz; subst hz; omega, by rw [show (Two.mk [y] Vs' a b).a.c = 0 from I.out.af.1]; omega, by rw [show (Two.mk [y] Vs' a b).b.c = 0 from I.out.bf.1]; omega, by simp; omega⟩
            have okT := Lib.hid okT
            go_wp2_with (refine (stepB T.out hpbB hne okT.out (by omega) (by omega)).mono ?_)
            all_goals
              rintro e w9 ⟨rfl, t9, hb9⟩
              have t9 : TwoAt w1.heap.size sb p pa pb v (n' + stepN [y] b) ⟨[stepX y Vs' b], stepV Vs' b, a, stepP [y] Vs' b⟩ w9 := by
                have e := stepC_X y Vs' b I.out.bf.1
                unfold Two.sB at t9
                simp only [e] at t9
                exact t9
              have I9 := Lib.hid (invB I.out (by omega))
              have t9 := Lib.hid t9
              have C9 := Lib.hid (C.out.trans hb9)
              have hN := stepN01 [y] b
              have hV9 := stepV_length Vs' b
              have own : (stepP [y] Vs' b).done = true ∨ needs (stepP [y] Vs' b) a (stepX y Vs' b) + (nb + 1) ≤ 4 := by
                cases hd : b.done with
                | true => left; unfold stepP; rw [if_pos hd]; exact hd
                | false =>
                  have q := needs_own y Vs' b a I.out.bf.1 hd
                  rcases hb.out with h | h
                  · rw [hd] at h; cases h
                  · right; omega
              have oth : a.done = true ∨ needs a (stepP [y] Vs' b) (stepX y Vs' b) + na ≤ 4 := ha.out.imp id (fun h => Nat.le_trans (Nat.add_le_add_right (needs_other y Vs' a b I.out.bf.1) _) h)
              have own := Lib.hid own
              have oth := Lib.hid oth
              generalize (Two.mk [y] Vs' a b).sB.b.done = dn
              generalize stepN [y] b = m1 at *
              generalize stepX y Vs' b = y9 at *
              generalize stepV Vs' b = Vs9 at *
              generalize stepP [y] Vs' b = b9 at *
              clear hb9 I T C ha hb okT
              go_wp2
              go_roundw
              case rel => exact ⟨k + 1, y9, Vs9, a, b9, n' + m1, na, nb + 1, by omega, by go_num, by omega, by omega, by omega, by omega, by omega, oth, own, I9, t9, C9⟩
              case measure => simp [intOf]; omega
    · have b0 : decide ((k : Int) < 40) = false := by simp; omega
      obtain rfl : k = 40 := by omega
      have had : a.done = true := ha.out.elim id (fun h => by omega)
      have hbd : b.done = true := hb.out.elim id (fun h => by omega)
      obtain ⟨l1, ⟨al, l2⟩, l3⟩ := TwoLaw.last I.out hbd
      obtain ⟨vs9, g1, g2, g3, g4⟩ := T.out
      have hy0 := I.out.good.x0
      have hyl := I.out.good.xl
      have g1 := Lib.hid g1
      have g2 := Lib.hid g2
      have g3 := Lib.hid g3
      have hac := Lib.hid I.out.good.ac
      have hrg := Lib.hid I.out.good.rg
      have l1 := Lib.hid l1
      have l2 := Lib.hid l2
      have l3 := Lib.hid l3
      clear I T ha hb
      go_wp2_with fail
      refine (Mem.peek g1.out.mem 0 (by omega) (by omega)).mono ?_
      rintro e w9 ⟨rfl, m9, o9⟩
      dsimp only
      rw [rd1, show errAt [y] 0 = 0 by simp [errAt, inR]]
      have h9 := Lib.hid (g1.out.mems m9 o9)
      have C9 := Lib.hid (C.out.trans (footB g1.out.mem o9 g4))
      have q9 := C9.out.size
      have pa9 := Lib.hid (PutAt.next g2.out o9 (fun hf => put_far g1.out g2.out (.inl hf)))
      have pb9 := Lib.hid (PutAt.next g3.out o9 (fun hf => put_far g1.out g3.out (.inl hf)))
      clear m9 o9 g1 g2 g3 C
      go_wp2_with fail
      refine (at_ h9.out hac.out hrg.out y (r + 2) (by omega) (by omega) (by first | omega | (dsimp only; omega))).mono ?_
      rintro e w10 ⟨rfl, hb10⟩
      dsimp only
      rw [l2.out]
      rw [show kvOf (some (Ver.mk (r + 2) ⟨#[107]⟩ s1 false al)) = .agg #[.string ⟨#[107]⟩, .string s1, .int .i64 (r + 2)] from rfl, show (some (Ver.mk (r + 2) ⟨#[107]⟩ s1 false al)).isSome = true from rfl]
      have hbx := hb10.trans ((al9 w10 (.cells #[.string ⟨#[107]⟩, .string s1, .int .i64 (r + 2)] 63)).mono hb10.size)
      have N11 := Lib.hid (heap_alloc_new w10 (.cells #[.string ⟨#[107]⟩, .string s1, .int .i64 (r + 2)] 63))
      have h11 := Lib.hid (h9.out.below hbx)
      have pa11 := Lib.hid (pa9.out.below hbx)
      have pb11 := Lib.hid (pb9.out.below hbx)
      have C11 := Lib.hid (C9.out.trans (hbx.mono q9))
      have q11 := C11.out.size
      clear hbx hb10 h9 pa9 pb9 C9
      go_wp2_with fail
      generalize (w10.alloc (.cells #[.string ⟨#[107]⟩, .string s1, .int .i64 (r + 2)] 63)) = w11 at *
      refine (at_ h11.out hac.out hrg.out y (r + 1) (by omega) (by omega) (by first | omega | (dsimp only; omega))).mono ?_
      rintro e w12 ⟨rfl, hb12⟩
      dsimp only
      generalize hO1 : atR Vs' y (r + 1) = O1 at *
      have hO1 := Lib.hid hO1
      have hgen : ∃ (kk kv : ByteArray) (kr : Int) (is : Bool), kvOf O1 = .agg #[.string kk, .string kv, .int .i64 kr] ∧ O1.isSome = is ∧ ((is = true ∧ kr = r + 1 ∧ kv = s0) ∨ (kvOf (atR Vs' x r) = .agg #[.string kk, .string kv, .int .i64 kr] ∧ (atR Vs' x r).isSome = is ∧ ((is = true ∧ (kr == r + 1) = false) ∨ is = false))) := by
        refine ⟨kvK O1, kvV O1, kvR O1, O1.isSome, kv_eq _, rfl, ?_⟩
        rcases l3.out with ⟨al2, e⟩ | ⟨e, hy⟩
        · left; rw [e]; exact ⟨rfl, rfl, rfl⟩
        · right
          refine ⟨by rw [← e]; exact kv_eq _, by rw [← e], ?_⟩
          cases hz : O1 with
          | none => right; rfl
          | some u =>
            left
            have := hy u (by rw [← e, hz])
            refine ⟨rfl, ?_⟩
            simp [kvR, this]; omega
      obtain ⟨kk, kv, kr, is, g5, g6, hcs⟩ := hgen
      rw [g5, g6]
      have hcs := Lib.hid hcs
      clear g5 g6
      have hbx := hb12.trans ((al9 w12 (.cells #[.string kk, .string kv, .int .i64 kr] 63)).mono hb12.size)
      have M13 := Lib.hid (heap_alloc_new w12 (.cells #[.string kk, .string kv, .int .i64 kr] 63))
      have N13 := Lib.hid ((hbx.block _ (lt_of_heap N11.out)).trans N11.out)
      have h13 := Lib.hid (h11.out.below hbx)
      have pa13 := Lib.hid (pa11.out.below hbx)
      have pb13 := Lib.hid (pb11.out.below hbx)
      have C13 := Lib.hid (C11.out.trans (hbx.mono q11))
      have q13 := C13.out.size
      have n10 := lt_of_heap N11.out
      clear hbx hb12 h11 pa11 pb11 C11 N11
      have X13 := Lib.hid ((C13.out.block _ k1).trans K1.out)
      obtain ⟨m0, m1, m2⟩ := kv3 M13.out
      obtain ⟨z0, z1⟩ := bx2 X13.out
      rcases hcs.out with ⟨rfl, rfl, rfl⟩ | ⟨c0, c3, ⟨rfl, c2⟩ | rfl⟩
      · clear hcs
        go_wp2_with fail
        refine (at_ h13.out hac.out hrg.out x r (by omega) (by omega) (by first | omega | (dsimp only; omega))).mono ?_
        rintro e w14 ⟨rfl, hb14⟩
        dsimp only
        generalize atR Vs' x r = O2 at *
        rw [kv_eq]
        generalize O2.isSome = bf
        have hbx := hb14.trans ((al9 w14 (.cells #[.string (kvK O2), .string (kvV O2), .int .i64 (kvR O2)] 63)).mono hb14.size)
        have L15 := heap_alloc_new w14 (.cells #[.string (kvK O2), .string (kvV O2), .int .i64 (kvR O2)] 63)
        have M15 := (hbx.block _ (lt_of_heap M13.out)).trans M13.out
        have N15 := (hbx.block _ (lt_of_heap N13.out)).trans N13.out
        have h15 := Lib.hid (h13.out.below hbx)
        have pa15 := Lib.hid (pa13.out.below hbx)
        have pb15 := Lib.hid (pb13.out.below hbx)
        have C15 := Lib.hid (C13.out.trans (hbx.mono q13))
        have q15 := C15.out.size
        have X15 := (C15.out.block _ k1).trans K1.out
        clear hbx hb14 h13 pa13 pb13 C13 z0 z1 m0 m1 m2
        have L15 := Lib.hid L15
        have M15 := Lib.hid M15
        have N15 := Lib.hid N15
        have X15 := Lib.hid X15
        go_wp2_with fail
        generalize (w14.alloc (.cells #[.string (kvK O2), .string (kvV O2), .int .i64 (kvR O2)] 63)) = w15 at *
        refine (step_same pa15.out had).mono ?_
        rintro e w16 ⟨rfl, hw⟩
        subst hw
        go_wp2_with fail
        refine (step_same pb15.out hbd).mono ?_
        rintro e w16 ⟨rfl, hw⟩
        subst hw
        go_wp2_with fail
        refine (Chain.rev h15.out y (by omega) (by first | omega | (dsimp only; omega))).mono ?_
        rintro e w17 ⟨rfl, hb17⟩
        dsimp only
        rw [l1.out]
        obtain ⟨m0, m1, m2⟩ := kv3 ((hb17.block _ (lt_of_heap M15.out)).trans M15.out)
        obtain ⟨n0, n1, n2⟩ := kv3 ((hb17.block _ (lt_of_heap N15.out)).trans N15.out)
        obtain ⟨o0, o1, o2⟩ := kv3 ((hb17.block _ (lt_of_heap L15.out)).trans L15.out)
        obtain ⟨z0, z1⟩ := bx2 ((hb17.block _ (lt_of_heap X15.out)).trans X15.out)
        have fin := Lib.hid (B1.out.trans ((C15.out.trans (hb17.mono q15)).mono q1))
        clear hb17 h15 pa15 pb15 C15 L15 M15 N15 X15
        go_wp2
        go_ret
        exact ⟨rfl, fin.out⟩
      · clear hcs
        have c0 := Lib.hid c0
        have c3 := Lib.hid c3
        go_wp2_with fail
        refine (at_ h13.out hac.out hrg.out x r (by omega) (by omega) (by first | omega | (dsimp only; omega))).mono ?_
        rintro e w14 ⟨rfl, hb14⟩
        dsimp only
        rw [c0.out, c3.out]
        have hbx := hb14.trans ((al9 w14 (.cells #[.string kk, .string kv, .int .i64 kr] 63)).mono hb14.size)
        have L15 := heap_alloc_new w14 (.cells #[.string kk, .string kv, .int .i64 kr] 63)
        have M15 := (hbx.block _ (lt_of_heap M13.out)).trans M13.out
        have N15 := (hbx.block _ (lt_of_heap N13.out)).trans N13.out
        have h15 := Lib.hid (h13.out.below hbx)
        have pa15 := Lib.hid (pa13.out.below hbx)
        have pb15 := Lib.hid (pb13.out.below hbx)
        have C15 := Lib.hid (C13.out.trans (hbx.mono q13))
        have q15 := C15.out.size
        have X15 := (C15.out.block _ k1).trans K1.out
        clear hbx hb14 h13 pa13 pb13 C13 z0 z1 m0 m1 m2
        have L15 := Lib.hid L15
        have M15 := Lib.hid M15
        have N15 := Lib.hid N15
        have X15 := Lib.hid X15
        go_wp2_with fail
        generalize (w14.alloc (.cells #[.string kk, .string kv, .int .i64 kr] 63)) = w15 at *
        refine (step_same pa15.out had).mono ?_
        rintro e w16 ⟨rfl, hw⟩
        subst hw
        go_wp2_with fail
        refine (step_same pb15.out hbd).mono ?_
        rintro e w16 ⟨rfl, hw⟩
        subst hw
        go_wp2_with fail
        refine (Chain.rev h15.out y (by omega) (by first | omega | (dsimp only; omega))).mono ?_
        rintro e w17 ⟨rfl, hb17⟩
        dsimp only
        rw [l1.out]
        obtain ⟨m0, m1, m2⟩ := kv3 ((hb17.block _ (lt_of_heap M15.out)).trans M15.out)
        obtain ⟨n0, n1, n2⟩ := kv3 ((hb17.block _ (lt_of_heap N15.out)).trans N15.out)
        obtain ⟨o0, o1, o2⟩ := kv3 ((hb17.block _ (lt_of_heap L15.out)).trans L15.out)
        obtain ⟨z0, z1⟩ := bx2 ((hb17.block _ (lt_of_heap X15.out)).trans X15.out)
        have fin := Lib.hid (B1.out.trans ((C15.out.trans (hb17.mono q15)).mono q1))
        clear hb17 h15 pa15 pb15 C15 L15 M15 N15 X15
        go_wp2
        go_ret
        exact ⟨rfl, fin.out⟩
      · clear hcs
        have c0 := Lib.hid c0
        have c3 := Lib.hid c3
        go_wp2_with fail
        refine (at_ h13.out hac.out hrg.out x r (by omega) (by omega) (by first | omega | (dsimp only; omega))).mono ?_
        rintro e w14 ⟨rfl, hb14⟩
        dsimp only
        rw [c0.out, c3.out]
        have hbx := hb14.trans ((al9 w14 (.cells #[.string kk, .string kv, .int .i64 kr] 63)).mono hb14.size)
        have L15 := heap_alloc_new w14 (.cells #[.string kk, .string kv, .int .i64 kr] 63)
        have M15 := (hbx.block _ (lt_of_heap M13.out)).trans M13.out
        have N15 := (hbx.block _ (lt_of_heap N13.out)).trans N13.out
        have h15 := Lib.hid (h13.out.below hbx)
        have pa15 := Lib.hid (pa13.out.below hbx)
        have pb15 := Lib.hid (pb13.out.below hbx)
        have C15 := Lib.hid (C13.out.trans (hbx.mono q13))
        have q15 := C15.out.size
        have X15 := (C15.out.block _ k1).trans K1.out
        clear hbx hb14 h13 pa13 pb13 C13 z0 z1 m0 m1 m2
        have L15 := Lib.hid L15
        have M15 := Lib.hid M15
        have N15 := Lib.hid N15
        have X15 := Lib.hid X15
        go_wp2_with fail
        generalize (w14.alloc (.cells #[.string kk, .string kv, .int .i64 kr] 63)) = w15 at *
        refine (step_same pa15.out had).mono ?_
        rintro e w16 ⟨rfl, hw⟩
        subst hw
        go_wp2_with fail
        refine (step_same pb15.out hbd).mono ?_
        rintro e w16 ⟨rfl, hw⟩
        subst hw
        go_wp2_with fail
        refine (Chain.rev h15.out y (by omega) (by first | omega | (dsimp only; omega))).mono ?_
        rintro e w17 ⟨rfl, hb17⟩
        dsimp only
        rw [l1.out]
        obtain ⟨m0, m1, m2⟩ := kv3 ((hb17.block _ (lt_of_heap M15.out)).trans M15.out)
        obtain ⟨n0, n1, n2⟩ := kv3 ((hb17.block _ (lt_of_heap N15.out)).trans N15.out)
        obtain ⟨o0, o1, o2⟩ := kv3 ((hb17.block _ (lt_of_heap L15.out)).trans L15.out)
        obtain ⟨z0, z1⟩ := bx2 ((hb17.block _ (lt_of_heap X15.out)).trans X15.out)
        have fin := Lib.hid (B1.out.trans ((C15.out.trans (hb17.mono q15)).mono q1))
        clear hb17 h15 pa15 pb15 C15 L15 M15 N15 X15
        go_wp2
        go_ret
        exact ⟨rfl, fin.out⟩
end Go.Proofs.Ytllibgjajlgnbab.WalkChainTwo
