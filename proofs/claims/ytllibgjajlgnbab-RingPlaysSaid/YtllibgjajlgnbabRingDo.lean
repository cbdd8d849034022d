/- RingPlays' step: one deed, of both. Laid by gendoring.py. -/
import Derived.Test.YtllibgjajlgnbabRingWord
namespace Go.Proofs.Ytllibgjajlgnbab.RingDo
open Go Go.RowKit Go.Proofs.Ytllibgjajlgnbab.Only Go.Proofs.Ytllibgjajlgnbab.Mem Go.Proofs.Ytllibgjajlgnbab.New Go.Proofs.Ytllibgjajlgnbab.Ref Go.Proofs.Ytllibgjajlgnbab.Ring Go.Proofs.Ytllibgjajlgnbab.RingRef
set_option linter.unusedVariables false
set_option linter.unusedSimpArgs false

/-- The cells X behind a deed, where the word is told of D. -/
def doC (X D : List Int) (k N what a0 a1 a2 d0 d1 d2 raw : Int) (odd : Bool) : List Int :=
  if k = 1 then X else if k = 2 then casAt X 2 (Bits.head a0 a1 a2) (Bits.head d0 d1 d2) else if k = 3 then X else
  if k = 4 then setC X 0 N (wordD D 0 N raw odd) what else if k = 5 then X else setC X 1 N (wordD D 1 N raw odd) what
def doA (k N : Int) : Int := if k = 1 ∨ k = 2 then 1 else asks N

/-- What a deed leaves. -/
def Did (B b p : Nat) (v : Value) (C D : List Int) (n cnt : Int) (k N what a0 a1 a2 d0 d1 d2 raw : Int) (odd : Bool) (w : World) (e : Ending) (w' : World) : Prop :=
  ∃ s' ok, e = .returned (.tuple #[.agg #[s', .int .i64 (cnt + doA k N), .int .i64 2], .bool ok]) ∧ LogAt B b p v (doC C D k N what a0 a1 a2 d0 d1 d2 raw odd) (n + doA k N) w' ∧ RefAt B s' (doC D D k N what a0 a1 a2 d0 d1 d2 raw odd) w' ∧ (∀ j, s'.ownBlock = some j → ¬ Foot p v j) ∧ Only (Foot p v) w w' ∧ (C = D → ok = true)

/-- The three blocks of a deed. -/
structure Fd (w0 : World) (x0 x1 x2 : Value) (k N wh a0 a1 a2 d0 d1 d2 raw : Int) (odd : Bool) (w : World) : Prop where
  arg : w.heap[w0.heap.size]? = some (.cells #[x0, x1, x2] 37 (0, 0))
  deed : w.heap[w0.heap.size + 1]? = some (.cells #[.int .i64 k, .int .i64 N, .int .i64 wh, .int .i64 a0, .int .i64 a1, .int .i64 a2, .int .i64 d0, .int .i64 d1, .int .i64 d2, .int .u64 raw, .bool odd] 43 (0, 0))
  res : w.heap[w0.heap.size + 1 + 1]? = some (.cells #[.slice none 0 0, .int .i64 0, .int .i64 0] 37 (0, 0))
theorem Fd.start (w0 : World) (x0 x1 x2 : Value) (k N wh a0 a1 a2 d0 d1 d2 raw : Int) (odd : Bool) : Fd w0 x0 x1 x2 k N wh a0 a1 a2 d0 d1 d2 raw odd (((w0.alloc (.cells #[x0, x1, x2] 37)).alloc (.cells #[.int .i64 k, .int .i64 N, .int .i64 wh, .int .i64 a0, .int .i64 a1, .int .i64 a2, .int .i64 d0, .int .i64 d1, .int .i64 d2, .int .u64 raw, .bool odd] 43)).alloc (.cells #[.slice none 0 0, .int .i64 0, .int .i64 0] 37)) := by
  refine ⟨?_, ?_, ?_⟩
  · rw [heap_alloc_old _ _ (by simp <;> omega), heap_alloc_old _ _ (by simp)]; exact new3 _ _ _ _ _
  · rw [heap_alloc_old _ _ (by simp)]
    have := heap_alloc_new (w0.alloc (.cells #[x0, x1, x2] 37)) (.cells #[.int .i64 k, .int .i64 N, .int .i64 wh, .int .i64 a0, .int .i64 a1, .int .i64 a2, .int .i64 d0, .int .i64 d1, .int .i64 d2, .int .u64 raw, .bool odd] 43)
    simpa using this
  · have := new3 ((w0.alloc (.cells #[x0, x1, x2] 37)).alloc (.cells #[.int .i64 k, .int .i64 N, .int .i64 wh, .int .i64 a0, .int .i64 a1, .int .i64 a2, .int .i64 d0, .int .i64 d1, .int .i64 d2, .int .u64 raw, .bool odd] 43)) (.slice none 0 0) (.int .i64 0) (.int .i64 0) 37
    simpa using this
theorem Fd.next {w0 w w' : World} {x0 x1 x2 : Value} {k N wh a0 a1 a2 d0 d1 d2 raw : Int} {odd : Bool} {S : Nat → Prop} (h : Fd w0 x0 x1 x2 k N wh a0 a1 a2 d0 d1 d2 raw odd w) (ho : Only S w w') (hS : ∀ j, w0.heap.size ≤ j → ¬ S j) : Fd w0 x0 x1 x2 k N wh a0 a1 a2 d0 d1 d2 raw odd w' :=
  ⟨(ho.block _ (lt_of_heap h.arg) (hS _ (by omega))).trans h.arg, (ho.block _ (lt_of_heap h.deed) (hS _ (by omega))).trans h.deed, (ho.block _ (lt_of_heap h.res) (hS _ (by omega))).trans h.res⟩

theorem LogAt.keep {B b p : Nat} {v : Value} {C : List Int} {n : Int} {w w' : World} {S : Nat → Prop} (h : LogAt B b p v C n w) (ho : Only S w w') (hf : ∀ k, Foot p v k → ¬ S k) (hb : ¬ S b) : LogAt B b p v C n w' :=
  ⟨h.mem.keep ho (hf p (.inl rfl)) (fun k hk => hf k (.inr hk)), (ho.block _ (lt_of_heap h.blk) hb).trans h.blk, h.base, h.far, h.len⟩
theorem ref_lt {B : Nat} {s : Value} {D : List Int} {w : World} (h : RefAt B s D w) : ∀ j, s.ownBlock = some j → j < w.heap.size := by
  intro j e
  rcases h.own.2 with ⟨h2, _⟩ | ⟨g, cap, cur, hg, hb, hgg, r⟩
  · subst h2; cases e
  · have e2 : g = j := by simpa [hg, Value.ownBlock] using e
    rw [← e2]; exact lt_of_heap hgg

/-- The end of a deed. -/
theorem close {B b p q : Nat} {v s s' : Value} {C' D' : List Int} {n' : Int} {w w3 w4 w5 wf : World} (hbw : b < w.heap.size) (hlow : ∀ j, w.heap.size ≤ j → ¬ Foot p v j) (hrl : ∀ j, s.ownBlock = some j → j < w.heap.size) (hap : ∀ j, s.ownBlock = some j → ¬ Foot p v j)
    (h3 : LogAt B b p v C' n' w3) (ho3 : Only (Foot p v) w w3) (b34 : Below w3.heap.size w3 w4) (h5 : RefNext B s s' D' w4 w5) (o6 : Only (fun j => j = q) w5 wf) (hq : w.heap.size ≤ q) (hq4 : q < w4.heap.size) :
    LogAt B b p v C' n' wf ∧ RefAt B s' D' wf ∧ (∀ j, s'.ownBlock = some j → ¬ Foot p v j) ∧ Only (Foot p v) w wf := by
  have l4 := RingHead.LogAt.below h3 b34
  have l5 := RingHead.LogAt.below l4 h5.bel
  have s3 := ho3.size
  have s4 := b34.size
  refine ⟨LogAt.keep l5 o6 (fun k hk e => hlow k (by have e : k = q := e; omega) hk) (fun e => by have e : b = q := e; omega), h5.ref.keep o6 (fun k hk e => ?_), fun j hj => ?_, ?_⟩
  · have e : k = q := e
    rcases h5.new with e2 | e2
    · rw [e2] at hk; have := hrl k hk; omega
    · have := e2 k hk; omega
  · rcases h5.new with e2 | e2
    · rw [e2] at hj; exact hap j hj
    · exact hlow j (by have := e2 j hj; omega)
  · have q1 := ho3.trans (ofBelow (S := fun _ => False) b34) (fun _ _ x => x.elim)
    have q2 := q1.trans (ofBelow (S := fun _ => False) h5.bel) (fun _ _ x => x.elim)
    exact q2.trans o6 (fun k hk e => by have e : k = q := e; omega)

/-- .. and what it leaves. -/
theorem finish {B b p q : Nat} {v s s' : Value} {C C' D D' : List Int} {n cnt a k N what a0 a1 a2 d0 d1 d2 raw : Int} {odd ok : Bool} {w w3 w4 w5 wf : World} (dC : doC C D k N what a0 a1 a2 d0 d1 d2 raw odd = C') (dD : doC D D k N what a0 a1 a2 d0 d1 d2 raw odd = D') (dA : doA k N = a) (hbw : b < w.heap.size) (hlow : ∀ j, w.heap.size ≤ j → ¬ Foot p v j) (hrl : ∀ j, s.ownBlock = some j → j < w.heap.size) (hap : ∀ j, s.ownBlock = some j → ¬ Foot p v j)
    (h3 : LogAt B b p v C' (n + a) w3) (ho3 : Only (Foot p v) w w3) (b34 : Below w3.heap.size w3 w4) (h5 : RefNext B s s' D' w4 w5) (hq : w.heap.size ≤ q) (hq4 : q < w4.heap.size) (hok : C = D → ok = true) (o6 : Only (fun j => j = q) w5 wf) :
    Did B b p v C D n cnt k N what a0 a1 a2 d0 d1 d2 raw odd w (.returned (.tuple #[.agg #[s', .int .i64 (cnt + a), .int .i64 2], .bool ok])) wf := by
  obtain ⟨c1, c2, c3, c4⟩ := close hbw hlow hrl hap h3 ho3 b34 h5 o6 hq hq4
  exact ⟨s', ok, by rw [dA], by rw [dC, dA]; exact c1, by rw [dD]; exact c2, c3, c4, hok⟩

theorem res_of {q : Nat} {w5 : World} {u0 u1 u2 o : Value} (h : w5.heap[q]? = some (.cells #[.slice none 0 0, .int .i64 0, .int .i64 0] 37 (0, 0))) (ob : Obj) :
    let wz := (((w5.setCell ⟨q, 0, none⟩ u0).setCell ⟨q, 1, none⟩ u1).setCell ⟨q, 2, none⟩ u2).alloc ob
    wz.cell? ⟨q, 0, none⟩ = some u0 ∧ wz.cell? ⟨q, 1, none⟩ = some u1 ∧ wz.cell? ⟨q, 2, none⟩ = some u2 := by
  have hl := lt_of_heap h
  have h2 := (heap_alloc_old (((w5.setCell ⟨q, 0, none⟩ u0).setCell ⟨q, 1, none⟩ u1).setCell ⟨q, 2, none⟩ u2) ob (by simpa [World.setCell] using hl)).trans (put3 h u0 u1 u2)
  exact (cell3 h2).1
theorem only_of {q : Nat} (w5 : World) (u0 u1 u2 : Value) (ob : Obj) : Only (fun j => j = q) w5 ((((w5.setCell ⟨q, 0, none⟩ u0).setCell ⟨q, 1, none⟩ u1).setCell ⟨q, 2, none⟩ u2).alloc ob) :=
  ((((refl (fun j => j = q) w5).setCell (p := ⟨q, 0, none⟩) (fun _ => rfl) _).setCell (p := ⟨q, 1, none⟩) (fun _ => rfl) _).setCell (p := ⟨q, 2, none⟩) (fun _ => rfl) _).alloc _

set_option maxHeartbeats 8000000 in
set_option maxRecDepth 100000 in
theorem do3 {B b p : Nat} {v : Value} {C : List Int} {n : Int} {w : World} (h : LogAt B b p v C n w) (hC : ∀ x ∈ C, 0 ≤ x ∧ x ≤ 18446744073709551615) (hn : 0 ≤ n ∧ n < 4611686018427387904) (s : Value) (D : List Int) (hr : RefAt B s D w) (hl : D.length = 35) (hD : ∀ x ∈ D, 0 ≤ x ∧ x ≤ 18446744073709551615) (hap : ∀ j, s.ownBlock = some j → ¬ Foot p v j) (hB : B ≤ w.heap.size) (cnt : Int) (hc : 0 ≤ cnt ∧ cnt < 4611686018427387904) (N wh a0 a1 a2 d0 d1 d2 raw : Int) (odd : Bool) (what : Int) (hwhat : (wh < 0 ∧ what = 0) ∨ (0 ≤ wh ∧ what = wh % 1073741824)) (hN : -9223372036854775808 ≤ N ∧ N ≤ 9223372036854775807) (hwh : -9223372036854775808 ≤ wh ∧ wh ≤ 9223372036854775807) (ha0 : -9223372036854775808 ≤ a0 ∧ a0 ≤ 9223372036854775807) (ha1 : -9223372036854775808 ≤ a1 ∧ a1 ≤ 9223372036854775807) (ha2 : -9223372036854775808 ≤ a2 ∧ a2 ≤ 9223372036854775807) (hd0 : -9223372036854775808 ≤ d0 ∧ d0 ≤ 9223372036854775807) (hd1 : -9223372036854775808 ≤ d1 ∧ d1 ≤ 9223372036854775807) (hd2 : -9223372036854775808 ≤ d2 ∧ d2 ≤ 9223372036854775807) :
    Calls Try.prog 19 #[.pointer (some ⟨b, 0, none⟩), .agg #[s, .int .i64 cnt, .int .i64 2], .agg #[.int .i64 3, .int .i64 N, .int .i64 wh, .int .i64 a0, .int .i64 a1, .int .i64 a2, .int .i64 d0, .int .i64 d1, .int .i64 d2, .int .u64 raw, .bool odd]] w (Did B b p v C D n cnt 3 N what a0 a1 a2 d0 d1 d2 raw odd w) := by
  obtain ⟨A, cap, rfl, hcap⟩ := own_any hr.own
  have hlow := RingPub.foot_lt' h.mem
  have hrl := ref_lt hr
  have hbw := lt_of_heap h.blk
  have hb2 : Below w.heap.size w (((w.alloc (.cells #[.slice A D.length cap, .int .i64 cnt, .int .i64 2] 37)).alloc (.cells #[.int .i64 3, .int .i64 N, .int .i64 wh, .int .i64 a0, .int .i64 a1, .int .i64 a2, .int .i64 d0, .int .i64 d1, .int .i64 d2, .int .u64 raw, .bool odd] 43)).alloc (.cells #[.slice none 0 0, .int .i64 0, .int .i64 0] 37)) := (((Below.refl _ _).alloc (Nat.le_refl _) _).alloc (by simp) _).alloc (by simp <;> omega) _
  have F := Fd.start w (.slice A D.length cap) (.int .i64 cnt) (.int .i64 2) 3 N wh a0 a1 a2 d0 d1 d2 raw odd
  have L2 := RingHead.LogAt.below h hb2
  have R2 := hr.below hb2
  have hw2 : 0 ≤ what ∧ what ≤ 1073741824 := by omega
  obtain ⟨⟨x0, x1, x2⟩, _, _, _⟩ := cell3 F.arg
  obtain ⟨g0, g1, g2, g3, g4, g5, g6, g7, g8, g9, g10⟩ := cell11 F.deed
  have L2 := Lib.hid L2
  have R2 := Lib.hid R2
  have F := Lib.hid F
  have hb2 := Lib.hid hb2
  have hlow := Lib.hid hlow
  have hrl := Lib.hid hrl
  have hap := Lib.hid hap
  replace hl := Lib.hid hl
  clear h hr
  rcases hwhat with ⟨h0, rfl⟩ | ⟨h0, rfl⟩
  all_goals
    have b0 : (wh < 0) ↔ (wh < 0) := Iff.rfl
    go_enter Try.func19, Try.ntmps19
    go_wp2_with fail
    generalize (((w.alloc (.cells #[.slice A D.length cap, .int .i64 cnt, .int .i64 2] 37)).alloc (.cells #[.int .i64 3, .int .i64 N, .int .i64 wh, .int .i64 a0, .int .i64 a1, .int .i64 a2, .int .i64 d0, .int .i64 d1, .int .i64 d2, .int .u64 raw, .bool odd] 43)).alloc (.cells #[.slice none 0 0, .int .i64 0, .int .i64 0] 37)) = w2 at *
    refine (RingNew.slot L2.out hC N hN hn).mono ?_
    rintro e w3 ⟨rfl, h3, ho3⟩
    have F3 := F.out.next ho3 hlow.out
    have R3 := R2.out.keep ho3 (fun j hj => hap.out j hj)
    obtain ⟨⟨x0, x1, x2⟩, _, _, _⟩ := cell3 F3.arg
    obtain ⟨g0, g1, g2, g3, g4, g5, g6, g7, g8, g9, g10⟩ := cell11 F3.deed
    have h3 := Lib.hid h3
    have R3 := Lib.hid R3
    have F3 := Lib.hid F3
    have hO3 := Lib.hid ((ofBelow (S := Foot p v) hb2.out).trans ho3 (fun _ _ x => x))
    have s3 := hO3.out.size
    have q3 := lt_of_heap F3.out.res
    clear ho3
    go_wp2_with fail
    refine (RingRef.look _ D _ B R3.out hl.out hD (Nat.le_trans hB s3) cnt hc 0 N (by simp) hN).mono ?_
    rintro e w5 ⟨s', rfl, h5⟩
    obtain ⟨A5, cap5, hs5, hcap5⟩ := own_any h5.ref.own
    subst hs5
    have F5 := F3.out.next (ofBelow (S := fun _ => False) h5.bel) (fun _ _ x => x)
    obtain ⟨⟨s0, s1, s2⟩, q0, q1, q2⟩ := cell3 F5.res
    have hf5 := lt_of_heap F5.res
    have hf6 : ¬ w.heap.size + 1 + 1 = w5.heap.size := by omega
    have hf7 : ¬ w5.heap.size = w.heap.size + 1 + 1 := by omega
    have h5 := Lib.hid h5
    have F5 := Lib.hid F5
    cases hq1 : (lookA C 0 N == lookA D 0 N) with
    | false =>
      go_wp2
      obtain ⟨z0, z1, z2⟩ := res_of (u0 := (.slice A5 D.length cap5)) (u1 := (.int .i64 (cnt + asks N))) (u2 := .int .i64 2) (o := .int .i64 0) F5.out.res (.cells #[(.slice A5 D.length cap5), (.int .i64 (cnt + asks N)), .int .i64 2] 37)
      refine bodyPost_ret (v := .tuple #[.agg #[(.slice A5 D.length cap5), (.int .i64 (cnt + asks N)), .int .i64 2], .bool false]) ?_ rfl ?_
      · generalize ((((w5.setCell ⟨w.heap.size + 1 + 1, 0, none⟩ (.slice A5 D.length cap5)).setCell ⟨w.heap.size + 1 + 1, 1, none⟩ (.int .i64 (cnt + asks N))).setCell ⟨w.heap.size + 1 + 1, 2, none⟩ (.int .i64 2)).alloc (.cells #[(.slice A5 D.length cap5), (.int .i64 (cnt + asks N)), .int .i64 2] 37)) = wz at z0 z1 z2 ⊢
        simp [results, Try.results19, go_sem, z0, z1, z2]
      · refine finish ?_ ?_ ?_ hbw hlow.out hrl.out hap.out h3.out hO3.out (Below.refl _ _) h5.out (by omega) q3 ?_ (only_of _ _ _ _ _)
        · simp [doC]
        · simp [doC]
        · simp [doA]
        · exact (fun e => by rw [e] at hq1; simp at hq1)
    | true =>
      cases hq2 : (lookW C 0 N == lookW D 0 N) with
      | false =>
        go_wp2
        obtain ⟨z0, z1, z2⟩ := res_of (u0 := (.slice A5 D.length cap5)) (u1 := (.int .i64 (cnt + asks N))) (u2 := .int .i64 2) (o := .int .i64 0) F5.out.res (.cells #[(.slice A5 D.length cap5), (.int .i64 (cnt + asks N)), .int .i64 2] 37)
        refine bodyPost_ret (v := .tuple #[.agg #[(.slice A5 D.length cap5), (.int .i64 (cnt + asks N)), .int .i64 2], .bool false]) ?_ rfl ?_
        · generalize ((((w5.setCell ⟨w.heap.size + 1 + 1, 0, none⟩ (.slice A5 D.length cap5)).setCell ⟨w.heap.size + 1 + 1, 1, none⟩ (.int .i64 (cnt + asks N))).setCell ⟨w.heap.size + 1 + 1, 2, none⟩ (.int .i64 2)).alloc (.cells #[(.slice A5 D.length cap5), (.int .i64 (cnt + asks N)), .int .i64 2] 37)) = wz at z0 z1 z2 ⊢
          simp [results, Try.results19, go_sem, z0, z1, z2]
        · refine finish ?_ ?_ ?_ hbw hlow.out hrl.out hap.out h3.out hO3.out (Below.refl _ _) h5.out (by omega) q3 ?_ (only_of _ _ _ _ _)
          · simp [doC]
          · simp [doC]
          · simp [doA]
          · exact (fun e => by rw [e] at hq2; simp at hq2)
      | true =>
        go_wp2
        obtain ⟨z0, z1, z2⟩ := res_of (u0 := (.slice A5 D.length cap5)) (u1 := (.int .i64 (cnt + asks N))) (u2 := .int .i64 2) (o := .int .i64 0) F5.out.res (.cells #[(.slice A5 D.length cap5), (.int .i64 (cnt + asks N)), .int .i64 2] 37)
        refine bodyPost_ret (v := .tuple #[.agg #[(.slice A5 D.length cap5), (.int .i64 (cnt + asks N)), .int .i64 2], .bool (lookB C 0 N == lookB D 0 N)]) ?_ rfl ?_
        · generalize ((((w5.setCell ⟨w.heap.size + 1 + 1, 0, none⟩ (.slice A5 D.length cap5)).setCell ⟨w.heap.size + 1 + 1, 1, none⟩ (.int .i64 (cnt + asks N))).setCell ⟨w.heap.size + 1 + 1, 2, none⟩ (.int .i64 2)).alloc (.cells #[(.slice A5 D.length cap5), (.int .i64 (cnt + asks N)), .int .i64 2] 37)) = wz at z0 z1 z2 ⊢
          simp [results, Try.results19, go_sem, z0, z1, z2]
        · refine finish ?_ ?_ ?_ hbw hlow.out hrl.out hap.out h3.out hO3.out (Below.refl _ _) h5.out (by omega) q3 ?_ (only_of _ _ _ _ _)
          · simp [doC]
          · simp [doC]
          · simp [doA]
          · exact (fun e => by rw [e]; simp)

set_option maxHeartbeats 8000000 in
set_option maxRecDepth 100000 in
theorem do5 {B b p : Nat} {v : Value} {C : List Int} {n : Int} {w : World} (h : LogAt B b p v C n w) (hC : ∀ x ∈ C, 0 ≤ x ∧ x ≤ 18446744073709551615) (hn : 0 ≤ n ∧ n < 4611686018427387904) (s : Value) (D : List Int) (hr : RefAt B s D w) (hl : D.length = 35) (hD : ∀ x ∈ D, 0 ≤ x ∧ x ≤ 18446744073709551615) (hap : ∀ j, s.ownBlock = some j → ¬ Foot p v j) (hB : B ≤ w.heap.size) (cnt : Int) (hc : 0 ≤ cnt ∧ cnt < 4611686018427387904) (N wh a0 a1 a2 d0 d1 d2 raw : Int) (odd : Bool) (what : Int) (hwhat : (wh < 0 ∧ what = 0) ∨ (0 ≤ wh ∧ what = wh % 1073741824)) (hN : -9223372036854775808 ≤ N ∧ N ≤ 9223372036854775807) (hwh : -9223372036854775808 ≤ wh ∧ wh ≤ 9223372036854775807) (ha0 : -9223372036854775808 ≤ a0 ∧ a0 ≤ 9223372036854775807) (ha1 : -9223372036854775808 ≤ a1 ∧ a1 ≤ 9223372036854775807) (ha2 : -9223372036854775808 ≤ a2 ∧ a2 ≤ 9223372036854775807) (hd0 : -9223372036854775808 ≤ d0 ∧ d0 ≤ 9223372036854775807) (hd1 : -9223372036854775808 ≤ d1 ∧ d1 ≤ 9223372036854775807) (hd2 : -9223372036854775808 ≤ d2 ∧ d2 ≤ 9223372036854775807) :
    Calls Try.prog 19 #[.pointer (some ⟨b, 0, none⟩), .agg #[s, .int .i64 cnt, .int .i64 2], .agg #[.int .i64 5, .int .i64 N, .int .i64 wh, .int .i64 a0, .int .i64 a1, .int .i64 a2, .int .i64 d0, .int .i64 d1, .int .i64 d2, .int .u64 raw, .bool odd]] w (Did B b p v C D n cnt 5 N what a0 a1 a2 d0 d1 d2 raw odd w) := by
  obtain ⟨A, cap, rfl, hcap⟩ := own_any hr.own
  have hlow := RingPub.foot_lt' h.mem
  have hrl := ref_lt hr
  have hbw := lt_of_heap h.blk
  have hb2 : Below w.heap.size w (((w.alloc (.cells #[.slice A D.length cap, .int .i64 cnt, .int .i64 2] 37)).alloc (.cells #[.int .i64 5, .int .i64 N, .int .i64 wh, .int .i64 a0, .int .i64 a1, .int .i64 a2, .int .i64 d0, .int .i64 d1, .int .i64 d2, .int .u64 raw, .bool odd] 43)).alloc (.cells #[.slice none 0 0, .int .i64 0, .int .i64 0] 37)) := (((Below.refl _ _).alloc (Nat.le_refl _) _).alloc (by simp) _).alloc (by simp <;> omega) _
  have F := Fd.start w (.slice A D.length cap) (.int .i64 cnt) (.int .i64 2) 5 N wh a0 a1 a2 d0 d1 d2 raw odd
  have L2 := RingHead.LogAt.below h hb2
  have R2 := hr.below hb2
  have hw2 : 0 ≤ what ∧ what ≤ 1073741824 := by omega
  obtain ⟨⟨x0, x1, x2⟩, _, _, _⟩ := cell3 F.arg
  obtain ⟨g0, g1, g2, g3, g4, g5, g6, g7, g8, g9, g10⟩ := cell11 F.deed
  have L2 := Lib.hid L2
  have R2 := Lib.hid R2
  have F := Lib.hid F
  have hb2 := Lib.hid hb2
  have hlow := Lib.hid hlow
  have hrl := Lib.hid hrl
  have hap := Lib.hid hap
  replace hl := Lib.hid hl
  clear h hr
  rcases hwhat with ⟨h0, rfl⟩ | ⟨h0, rfl⟩
  all_goals
    have b0 : (wh < 0) ↔ (wh < 0) := Iff.rfl
    go_enter Try.func19, Try.ntmps19
    go_wp2_with fail
    generalize (((w.alloc (.cells #[.slice A D.length cap, .int .i64 cnt, .int .i64 2] 37)).alloc (.cells #[.int .i64 5, .int .i64 N, .int .i64 wh, .int .i64 a0, .int .i64 a1, .int .i64 a2, .int .i64 d0, .int .i64 d1, .int .i64 d2, .int .u64 raw, .bool odd] 43)).alloc (.cells #[.slice none 0 0, .int .i64 0, .int .i64 0] 37)) = w2 at *
    refine (RingNew.done L2.out hC N hN hn).mono ?_
    rintro e w3 ⟨rfl, h3, ho3⟩
    have F3 := F.out.next ho3 hlow.out
    have R3 := R2.out.keep ho3 (fun j hj => hap.out j hj)
    obtain ⟨⟨x0, x1, x2⟩, _, _, _⟩ := cell3 F3.arg
    obtain ⟨g0, g1, g2, g3, g4, g5, g6, g7, g8, g9, g10⟩ := cell11 F3.deed
    have h3 := Lib.hid h3
    have R3 := Lib.hid R3
    have F3 := Lib.hid F3
    have hO3 := Lib.hid ((ofBelow (S := Foot p v) hb2.out).trans ho3 (fun _ _ x => x))
    have s3 := hO3.out.size
    have q3 := lt_of_heap F3.out.res
    clear ho3
    go_wp2_with fail
    refine (RingRef.look _ D _ B R3.out hl.out hD (Nat.le_trans hB s3) cnt hc 1 N (by simp) hN).mono ?_
    rintro e w5 ⟨s', rfl, h5⟩
    obtain ⟨A5, cap5, hs5, hcap5⟩ := own_any h5.ref.own
    subst hs5
    have F5 := F3.out.next (ofBelow (S := fun _ => False) h5.bel) (fun _ _ x => x)
    obtain ⟨⟨s0, s1, s2⟩, q0, q1, q2⟩ := cell3 F5.res
    have hf5 := lt_of_heap F5.res
    have hf6 : ¬ w.heap.size + 1 + 1 = w5.heap.size := by omega
    have hf7 : ¬ w5.heap.size = w.heap.size + 1 + 1 := by omega
    have h5 := Lib.hid h5
    have F5 := Lib.hid F5
    cases hq1 : (lookA C 1 N == lookA D 1 N) with
    | false =>
      go_wp2
      obtain ⟨z0, z1, z2⟩ := res_of (u0 := (.slice A5 D.length cap5)) (u1 := (.int .i64 (cnt + asks N))) (u2 := .int .i64 2) (o := .int .i64 0) F5.out.res (.cells #[(.slice A5 D.length cap5), (.int .i64 (cnt + asks N)), .int .i64 2] 37)
      refine bodyPost_ret (v := .tuple #[.agg #[(.slice A5 D.length cap5), (.int .i64 (cnt + asks N)), .int .i64 2], .bool false]) ?_ rfl ?_
      · generalize ((((w5.setCell ⟨w.heap.size + 1 + 1, 0, none⟩ (.slice A5 D.length cap5)).setCell ⟨w.heap.size + 1 + 1, 1, none⟩ (.int .i64 (cnt + asks N))).setCell ⟨w.heap.size + 1 + 1, 2, none⟩ (.int .i64 2)).alloc (.cells #[(.slice A5 D.length cap5), (.int .i64 (cnt + asks N)), .int .i64 2] 37)) = wz at z0 z1 z2 ⊢
        simp [results, Try.results19, go_sem, z0, z1, z2]
      · refine finish ?_ ?_ ?_ hbw hlow.out hrl.out hap.out h3.out hO3.out (Below.refl _ _) h5.out (by omega) q3 ?_ (only_of _ _ _ _ _)
        · simp [doC]
        · simp [doC]
        · simp [doA]
        · exact (fun e => by rw [e] at hq1; simp at hq1)
    | true =>
      cases hq2 : (lookW C 1 N == lookW D 1 N) with
      | false =>
        go_wp2
        obtain ⟨z0, z1, z2⟩ := res_of (u0 := (.slice A5 D.length cap5)) (u1 := (.int .i64 (cnt + asks N))) (u2 := .int .i64 2) (o := .int .i64 0) F5.out.res (.cells #[(.slice A5 D.length cap5), (.int .i64 (cnt + asks N)), .int .i64 2] 37)
        refine bodyPost_ret (v := .tuple #[.agg #[(.slice A5 D.length cap5), (.int .i64 (cnt + asks N)), .int .i64 2], .bool false]) ?_ rfl ?_
        · generalize ((((w5.setCell ⟨w.heap.size + 1 + 1, 0, none⟩ (.slice A5 D.length cap5)).setCell ⟨w.heap.size + 1 + 1, 1, none⟩ (.int .i64 (cnt + asks N))).setCell ⟨w.heap.size + 1 + 1, 2, none⟩ (.int .i64 2)).alloc (.cells #[(.slice A5 D.length cap5), (.int .i64 (cnt + asks N)), .int .i64 2] 37)) = wz at z0 z1 z2 ⊢
          simp [results, Try.results19, go_sem, z0, z1, z2]
        · refine finish ?_ ?_ ?_ hbw hlow.out hrl.out hap.out h3.out hO3.out (Below.refl _ _) h5.out (by omega) q3 ?_ (only_of _ _ _ _ _)
          · simp [doC]
          · simp [doC]
          · simp [doA]
          · exact (fun e => by rw [e] at hq2; simp at hq2)
      | true =>
        go_wp2
        obtain ⟨z0, z1, z2⟩ := res_of (u0 := (.slice A5 D.length cap5)) (u1 := (.int .i64 (cnt + asks N))) (u2 := .int .i64 2) (o := .int .i64 0) F5.out.res (.cells #[(.slice A5 D.length cap5), (.int .i64 (cnt + asks N)), .int .i64 2] 37)
        refine bodyPost_ret (v := .tuple #[.agg #[(.slice A5 D.length cap5), (.int .i64 (cnt + asks N)), .int .i64 2], .bool (lookB C 1 N == lookB D 1 N)]) ?_ rfl ?_
        · generalize ((((w5.setCell ⟨w.heap.size + 1 + 1, 0, none⟩ (.slice A5 D.length cap5)).setCell ⟨w.heap.size + 1 + 1, 1, none⟩ (.int .i64 (cnt + asks N))).setCell ⟨w.heap.size + 1 + 1, 2, none⟩ (.int .i64 2)).alloc (.cells #[(.slice A5 D.length cap5), (.int .i64 (cnt + asks N)), .int .i64 2] 37)) = wz at z0 z1 z2 ⊢
          simp [results, Try.results19, go_sem, z0, z1, z2]
        · refine finish ?_ ?_ ?_ hbw hlow.out hrl.out hap.out h3.out hO3.out (Below.refl _ _) h5.out (by omega) q3 ?_ (only_of _ _ _ _ _)
          · simp [doC]
          · simp [doC]
          · simp [doA]
          · exact (fun e => by rw [e]; simp)

set_option maxHeartbeats 8000000 in
set_option maxRecDepth 100000 in
theorem do2 {B b p : Nat} {v : Value} {C : List Int} {n : Int} {w : World} (h : LogAt B b p v C n w) (hC : ∀ x ∈ C, 0 ≤ x ∧ x ≤ 18446744073709551615) (hn : 0 ≤ n ∧ n < 4611686018427387904) (s : Value) (D : List Int) (hr : RefAt B s D w) (hl : D.length = 35) (hD : ∀ x ∈ D, 0 ≤ x ∧ x ≤ 18446744073709551615) (hap : ∀ j, s.ownBlock = some j → ¬ Foot p v j) (hB : B ≤ w.heap.size) (cnt : Int) (hc : 0 ≤ cnt ∧ cnt < 4611686018427387904) (N wh a0 a1 a2 d0 d1 d2 raw : Int) (odd : Bool) (what : Int) (hwhat : (wh < 0 ∧ what = 0) ∨ (0 ≤ wh ∧ what = wh % 1073741824)) (hN : -9223372036854775808 ≤ N ∧ N ≤ 9223372036854775807) (hwh : -9223372036854775808 ≤ wh ∧ wh ≤ 9223372036854775807) (ha0 : -9223372036854775808 ≤ a0 ∧ a0 ≤ 9223372036854775807) (ha1 : -9223372036854775808 ≤ a1 ∧ a1 ≤ 9223372036854775807) (ha2 : -9223372036854775808 ≤ a2 ∧ a2 ≤ 9223372036854775807) (hd0 : -9223372036854775808 ≤ d0 ∧ d0 ≤ 9223372036854775807) (hd1 : -9223372036854775808 ≤ d1 ∧ d1 ≤ 9223372036854775807) (hd2 : -9223372036854775808 ≤ d2 ∧ d2 ≤ 9223372036854775807) :
    Calls Try.prog 19 #[.pointer (some ⟨b, 0, none⟩), .agg #[s, .int .i64 cnt, .int .i64 2], .agg #[.int .i64 2, .int .i64 N, .int .i64 wh, .int .i64 a0, .int .i64 a1, .int .i64 a2, .int .i64 d0, .int .i64 d1, .int .i64 d2, .int .u64 raw, .bool odd]] w (Did B b p v C D n cnt 2 N what a0 a1 a2 d0 d1 d2 raw odd w) := by
  obtain ⟨A, cap, rfl, hcap⟩ := own_any hr.own
  have hlow := RingPub.foot_lt' h.mem
  have hrl := ref_lt hr
  have hbw := lt_of_heap h.blk
  have hb2 : Below w.heap.size w (((w.alloc (.cells #[.slice A D.length cap, .int .i64 cnt, .int .i64 2] 37)).alloc (.cells #[.int .i64 2, .int .i64 N, .int .i64 wh, .int .i64 a0, .int .i64 a1, .int .i64 a2, .int .i64 d0, .int .i64 d1, .int .i64 d2, .int .u64 raw, .bool odd] 43)).alloc (.cells #[.slice none 0 0, .int .i64 0, .int .i64 0] 37)) := (((Below.refl _ _).alloc (Nat.le_refl _) _).alloc (by simp) _).alloc (by simp <;> omega) _
  have F := Fd.start w (.slice A D.length cap) (.int .i64 cnt) (.int .i64 2) 2 N wh a0 a1 a2 d0 d1 d2 raw odd
  have L2 := RingHead.LogAt.below h hb2
  have R2 := hr.below hb2
  have hw2 : 0 ≤ what ∧ what ≤ 1073741824 := by omega
  obtain ⟨⟨x0, x1, x2⟩, _, _, _⟩ := cell3 F.arg
  obtain ⟨g0, g1, g2, g3, g4, g5, g6, g7, g8, g9, g10⟩ := cell11 F.deed
  have L2 := Lib.hid L2
  have R2 := Lib.hid R2
  have F := Lib.hid F
  have hb2 := Lib.hid hb2
  have hlow := Lib.hid hlow
  have hrl := Lib.hid hrl
  have hap := Lib.hid hap
  replace hl := Lib.hid hl
  clear h hr
  rcases hwhat with ⟨h0, rfl⟩ | ⟨h0, rfl⟩
  all_goals
    have b0 : (wh < 0) ↔ (wh < 0) := Iff.rfl
    go_enter Try.func19, Try.ntmps19
    go_wp2_with fail
    generalize (((w.alloc (.cells #[.slice A D.length cap, .int .i64 cnt, .int .i64 2] 37)).alloc (.cells #[.int .i64 2, .int .i64 N, .int .i64 wh, .int .i64 a0, .int .i64 a1, .int .i64 a2, .int .i64 d0, .int .i64 d1, .int .i64 d2, .int .u64 raw, .bool odd] 43)).alloc (.cells #[.slice none 0 0, .int .i64 0, .int .i64 0] 37)) = w2 at *
    refine (RingPub.publish L2.out hn a0 a1 a2 d0 d1 d2 ha0 ha1 ha2 hd0 hd1 hd2).mono ?_
    rintro e w3 ⟨rfl, h3, ho3⟩
    have F3 := F.out.next ho3 hlow.out
    have R3 := R2.out.keep ho3 (fun j hj => hap.out j hj)
    obtain ⟨⟨x0, x1, x2⟩, _, _, _⟩ := cell3 F3.arg
    obtain ⟨g0, g1, g2, g3, g4, g5, g6, g7, g8, g9, g10⟩ := cell11 F3.deed
    have h3 := Lib.hid h3
    have R3 := Lib.hid R3
    have F3 := Lib.hid F3
    have hO3 := Lib.hid ((ofBelow (S := Foot p v) hb2.out).trans ho3 (fun _ _ x => x))
    have s3 := hO3.out.size
    have q3 := lt_of_heap F3.out.res
    clear ho3
    go_wp2_with fail
    refine (RingRef.publish _ D _ B R3.out hl.out (Nat.le_trans hB s3) cnt hc a0 a1 a2 d0 d1 d2 ha0 ha1 ha2 hd0 hd1 hd2).mono ?_
    rintro e w5 ⟨s', rfl, h5⟩
    have hlen := casAt_length D 2 (Bits.head a0 a1 a2) (Bits.head d0 d1 d2)
    obtain ⟨A5, cap5, hs5, hcap5⟩ := own_any h5.ref.own
    rw [hlen] at hs5
    subst hs5
    have F5 := F3.out.next (ofBelow (S := fun _ => False) h5.bel) (fun _ _ x => x)
    obtain ⟨⟨s0, s1, s2⟩, q0, q1, q2⟩ := cell3 F5.res
    have hf5 := lt_of_heap F5.res
    have hf6 : ¬ w.heap.size + 1 + 1 = w5.heap.size := by omega
    have hf7 : ¬ w5.heap.size = w.heap.size + 1 + 1 := by omega
    have h5 := Lib.hid h5
    have F5 := Lib.hid F5
    go_wp2
    obtain ⟨z0, z1, z2⟩ := res_of (u0 := (.slice A5 D.length cap5)) (u1 := (.int .i64 (cnt + 1))) (u2 := .int .i64 2) (o := .int .i64 0) F5.out.res (.cells #[(.slice A5 D.length cap5), (.int .i64 (cnt + 1)), .int .i64 2] 37)
    refine bodyPost_ret (v := .tuple #[.agg #[(.slice A5 D.length cap5), (.int .i64 (cnt + 1)), .int .i64 2], .bool (casB C 2 (Bits.head a0 a1 a2) == casB D 2 (Bits.head a0 a1 a2))]) ?_ rfl ?_
    · generalize ((((w5.setCell ⟨w.heap.size + 1 + 1, 0, none⟩ (.slice A5 D.length cap5)).setCell ⟨w.heap.size + 1 + 1, 1, none⟩ (.int .i64 (cnt + 1))).setCell ⟨w.heap.size + 1 + 1, 2, none⟩ (.int .i64 2)).alloc (.cells #[(.slice A5 D.length cap5), (.int .i64 (cnt + 1)), .int .i64 2] 37)) = wz at z0 z1 z2 ⊢
      simp [results, Try.results19, go_sem, z0, z1, z2]
    · refine finish ?_ ?_ ?_ hbw hlow.out hrl.out hap.out h3.out hO3.out (Below.refl _ _) h5.out (by omega) q3 ?_ (only_of _ _ _ _ _)
      · simp [doC]
      · simp [doC]
      · simp [doA]
      · exact (fun e => by rw [e]; simp)

set_option maxHeartbeats 8000000 in
set_option maxRecDepth 100000 in
theorem do4 {B b p : Nat} {v : Value} {C : List Int} {n : Int} {w : World} (h : LogAt B b p v C n w) (hC : ∀ x ∈ C, 0 ≤ x ∧ x ≤ 18446744073709551615) (hn : 0 ≤ n ∧ n < 4611686018427387904) (s : Value) (D : List Int) (hr : RefAt B s D w) (hl : D.length = 35) (hD : ∀ x ∈ D, 0 ≤ x ∧ x ≤ 18446744073709551615) (hap : ∀ j, s.ownBlock = some j → ¬ Foot p v j) (hB : B ≤ w.heap.size) (cnt : Int) (hc : 0 ≤ cnt ∧ cnt < 4611686018427387904) (N wh a0 a1 a2 d0 d1 d2 raw : Int) (odd : Bool) (what : Int) (hwhat : (wh < 0 ∧ what = 0) ∨ (0 ≤ wh ∧ what = wh % 1073741824)) (hN : -9223372036854775808 ≤ N ∧ N ≤ 9223372036854775807) (hwh : -9223372036854775808 ≤ wh ∧ wh ≤ 9223372036854775807) (ha0 : -9223372036854775808 ≤ a0 ∧ a0 ≤ 9223372036854775807) (ha1 : -9223372036854775808 ≤ a1 ∧ a1 ≤ 9223372036854775807) (ha2 : -9223372036854775808 ≤ a2 ∧ a2 ≤ 9223372036854775807) (hd0 : -9223372036854775808 ≤ d0 ∧ d0 ≤ 9223372036854775807) (hd1 : -9223372036854775808 ≤ d1 ∧ d1 ≤ 9223372036854775807) (hd2 : -9223372036854775808 ≤ d2 ∧ d2 ≤ 9223372036854775807) :
    Calls Try.prog 19 #[.pointer (some ⟨b, 0, none⟩), .agg #[s, .int .i64 cnt, .int .i64 2], .agg #[.int .i64 4, .int .i64 N, .int .i64 wh, .int .i64 a0, .int .i64 a1, .int .i64 a2, .int .i64 d0, .int .i64 d1, .int .i64 d2, .int .u64 raw, .bool odd]] w (Did B b p v C D n cnt 4 N what a0 a1 a2 d0 d1 d2 raw odd w) := by
  obtain ⟨A, cap, rfl, hcap⟩ := own_any hr.own
  have hlow := RingPub.foot_lt' h.mem
  have hrl := ref_lt hr
  have hbw := lt_of_heap h.blk
  have hb2 : Below w.heap.size w (((w.alloc (.cells #[.slice A D.length cap, .int .i64 cnt, .int .i64 2] 37)).alloc (.cells #[.int .i64 4, .int .i64 N, .int .i64 wh, .int .i64 a0, .int .i64 a1, .int .i64 a2, .int .i64 d0, .int .i64 d1, .int .i64 d2, .int .u64 raw, .bool odd] 43)).alloc (.cells #[.slice none 0 0, .int .i64 0, .int .i64 0] 37)) := (((Below.refl _ _).alloc (Nat.le_refl _) _).alloc (by simp) _).alloc (by simp <;> omega) _
  have F := Fd.start w (.slice A D.length cap) (.int .i64 cnt) (.int .i64 2) 4 N wh a0 a1 a2 d0 d1 d2 raw odd
  have L2 := RingHead.LogAt.below h hb2
  have R2 := hr.below hb2
  have hw2 : 0 ≤ what ∧ what ≤ 1073741824 := by omega
  obtain ⟨⟨x0, x1, x2⟩, _, _, _⟩ := cell3 F.arg
  obtain ⟨g0, g1, g2, g3, g4, g5, g6, g7, g8, g9, g10⟩ := cell11 F.deed
  have L2 := Lib.hid L2
  have R2 := Lib.hid R2
  have F := Lib.hid F
  have hb2 := Lib.hid hb2
  have hlow := Lib.hid hlow
  have hrl := Lib.hid hrl
  have hap := Lib.hid hap
  replace hl := Lib.hid hl
  clear h hr
  rcases hwhat with ⟨h0, rfl⟩ | ⟨h0, rfl⟩
  all_goals
    have b0 : (wh < 0) ↔ (wh < 0) := Iff.rfl
    go_enter Try.func19, Try.ntmps19
    go_wp2_with fail
    generalize (((w.alloc (.cells #[.slice A D.length cap, .int .i64 cnt, .int .i64 2] 37)).alloc (.cells #[.int .i64 4, .int .i64 N, .int .i64 wh, .int .i64 a0, .int .i64 a1, .int .i64 a2, .int .i64 d0, .int .i64 d1, .int .i64 d2, .int .u64 raw, .bool odd] 43)).alloc (.cells #[.slice none 0 0, .int .i64 0, .int .i64 0] 37)) = w2 at *
    refine (RingDo.word _ D _ B R2.out hl.out hD (Nat.le_trans hB hb2.out.size) cnt hc 0 (by simp) 4 N wh a0 a1 a2 d0 d1 d2 raw odd hN).mono ?_
    rintro e w2' ⟨rfl, hbw2⟩
    replace F := Lib.hid (F.out.next (ofBelow (S := fun _ => False) hbw2) (fun _ _ x => x))
    replace L2 := Lib.hid (RingHead.LogAt.below L2.out hbw2)
    replace R2 := Lib.hid (R2.out.below hbw2)
    replace hb2 := Lib.hid (hb2.out.trans (hbw2.mono hb2.out.size))
    obtain ⟨⟨x0, x1, x2⟩, _, _, _⟩ := cell3 F.out.arg
    obtain ⟨g0, g1, g2, g3, g4, g5, g6, g7, g8, g9, g10⟩ := cell11 F.out.deed
    clear hbw2
    generalize hwd : wordD D 0 N raw odd = wd at *
    go_wp2_with fail
    refine (RingNew.claim L2.out N wd _ hN hw2 hn).mono ?_
    rintro e w3 ⟨rfl, h3, ho3⟩
    have F3 := F.out.next ho3 hlow.out
    have R3 := R2.out.keep ho3 (fun j hj => hap.out j hj)
    obtain ⟨⟨x0, x1, x2⟩, _, _, _⟩ := cell3 F3.arg
    obtain ⟨g0, g1, g2, g3, g4, g5, g6, g7, g8, g9, g10⟩ := cell11 F3.deed
    have h3 := Lib.hid h3
    have R3 := Lib.hid R3
    have F3 := Lib.hid F3
    have hO3 := Lib.hid ((ofBelow (S := Foot p v) hb2.out).trans ho3 (fun _ _ x => x))
    have s3 := hO3.out.size
    have q3 := lt_of_heap F3.out.res
    clear ho3
    go_wp2_with fail
    refine (RingRef.set _ D _ B R3.out hl.out (Nat.le_trans hB s3) cnt hc 0 N wd _ (by simp) hN hw2).mono ?_
    rintro e w5 ⟨s', rfl, h5⟩
    have hlen := setC_length D 0 N wd
    obtain ⟨A5, cap5, hs5, hcap5⟩ := own_any h5.ref.own
    simp only [hlen] at hs5
    subst hs5
    have F5 := F3.out.next (ofBelow (S := fun _ => False) h5.bel) (fun _ _ x => x)
    obtain ⟨⟨s0, s1, s2⟩, q0, q1, q2⟩ := cell3 F5.res
    have hf5 := lt_of_heap F5.res
    have hf6 : ¬ w.heap.size + 1 + 1 = w5.heap.size := by omega
    have hf7 : ¬ w5.heap.size = w.heap.size + 1 + 1 := by omega
    have h5 := Lib.hid h5
    have F5 := Lib.hid F5
    go_wp2
    obtain ⟨z0, z1, z2⟩ := res_of (u0 := (.slice A5 D.length cap5)) (u1 := (.int .i64 (cnt + asks N))) (u2 := .int .i64 2) (o := .int .i64 0) F5.out.res (.cells #[(.slice A5 D.length cap5), (.int .i64 (cnt + asks N)), .int .i64 2] 37)
    refine bodyPost_ret (v := .tuple #[.agg #[(.slice A5 D.length cap5), (.int .i64 (cnt + asks N)), .int .i64 2], .bool (setB C 0 N wd == setB D 0 N wd)]) ?_ rfl ?_
    · generalize ((((w5.setCell ⟨w.heap.size + 1 + 1, 0, none⟩ (.slice A5 D.length cap5)).setCell ⟨w.heap.size + 1 + 1, 1, none⟩ (.int .i64 (cnt + asks N))).setCell ⟨w.heap.size + 1 + 1, 2, none⟩ (.int .i64 2)).alloc (.cells #[(.slice A5 D.length cap5), (.int .i64 (cnt + asks N)), .int .i64 2] 37)) = wz at z0 z1 z2 ⊢
      simp [results, Try.results19, go_sem, z0, z1, z2]
    · refine finish ?_ ?_ ?_ hbw hlow.out hrl.out hap.out h3.out hO3.out (Below.refl _ _) h5.out (by omega) q3 ?_ (only_of _ _ _ _ _)
      · simp [doC, hwd]
      · simp [doC, hwd]
      · simp [doA]
      · exact (fun e => by rw [e]; simp)

set_option maxHeartbeats 8000000 in
set_option maxRecDepth 100000 in
theorem do6 {B b p : Nat} {v : Value} {C : List Int} {n : Int} {w : World} (h : LogAt B b p v C n w) (hC : ∀ x ∈ C, 0 ≤ x ∧ x ≤ 18446744073709551615) (hn : 0 ≤ n ∧ n < 4611686018427387904) (s : Value) (D : List Int) (hr : RefAt B s D w) (hl : D.length = 35) (hD : ∀ x ∈ D, 0 ≤ x ∧ x ≤ 18446744073709551615) (hap : ∀ j, s.ownBlock = some j → ¬ Foot p v j) (hB : B ≤ w.heap.size) (cnt : Int) (hc : 0 ≤ cnt ∧ cnt < 4611686018427387904) (k N wh a0 a1 a2 d0 d1 d2 raw : Int) (odd : Bool) (hk : ¬ (k = 1 ∨ k = 2 ∨ k = 3 ∨ k = 4 ∨ k = 5)) (what : Int) (hwhat : (wh < 0 ∧ what = 0) ∨ (0 ≤ wh ∧ what = wh % 1073741824)) (hN : -9223372036854775808 ≤ N ∧ N ≤ 9223372036854775807) (hwh : -9223372036854775808 ≤ wh ∧ wh ≤ 9223372036854775807) (ha0 : -9223372036854775808 ≤ a0 ∧ a0 ≤ 9223372036854775807) (ha1 : -9223372036854775808 ≤ a1 ∧ a1 ≤ 9223372036854775807) (ha2 : -9223372036854775808 ≤ a2 ∧ a2 ≤ 9223372036854775807) (hd0 : -9223372036854775808 ≤ d0 ∧ d0 ≤ 9223372036854775807) (hd1 : -9223372036854775808 ≤ d1 ∧ d1 ≤ 9223372036854775807) (hd2 : -9223372036854775808 ≤ d2 ∧ d2 ≤ 9223372036854775807) :
    Calls Try.prog 19 #[.pointer (some ⟨b, 0, none⟩), .agg #[s, .int .i64 cnt, .int .i64 2], .agg #[.int .i64 k, .int .i64 N, .int .i64 wh, .int .i64 a0, .int .i64 a1, .int .i64 a2, .int .i64 d0, .int .i64 d1, .int .i64 d2, .int .u64 raw, .bool odd]] w (Did B b p v C D n cnt k N what a0 a1 a2 d0 d1 d2 raw odd w) := by
  obtain ⟨A, cap, rfl, hcap⟩ := own_any hr.own
  have hlow := RingPub.foot_lt' h.mem
  have hrl := ref_lt hr
  have hbw := lt_of_heap h.blk
  have hb2 : Below w.heap.size w (((w.alloc (.cells #[.slice A D.length cap, .int .i64 cnt, .int .i64 2] 37)).alloc (.cells #[.int .i64 k, .int .i64 N, .int .i64 wh, .int .i64 a0, .int .i64 a1, .int .i64 a2, .int .i64 d0, .int .i64 d1, .int .i64 d2, .int .u64 raw, .bool odd] 43)).alloc (.cells #[.slice none 0 0, .int .i64 0, .int .i64 0] 37)) := (((Below.refl _ _).alloc (Nat.le_refl _) _).alloc (by simp) _).alloc (by simp <;> omega) _
  have F := Fd.start w (.slice A D.length cap) (.int .i64 cnt) (.int .i64 2) k N wh a0 a1 a2 d0 d1 d2 raw odd
  have L2 := RingHead.LogAt.below h hb2
  have R2 := hr.below hb2
  have hw2 : 0 ≤ what ∧ what ≤ 1073741824 := by omega
  obtain ⟨⟨x0, x1, x2⟩, _, _, _⟩ := cell3 F.arg
  obtain ⟨g0, g1, g2, g3, g4, g5, g6, g7, g8, g9, g10⟩ := cell11 F.deed
  have L2 := Lib.hid L2
  have R2 := Lib.hid R2
  have F := Lib.hid F
  have hb2 := Lib.hid hb2
  have hlow := Lib.hid hlow
  have hrl := Lib.hid hrl
  have hap := Lib.hid hap
  replace hl := Lib.hid hl
  have k1 : (k == 1) = false := by simp; omega
  have k2 : (k == 2) = false := by simp; omega
  have k3 : (k == 3) = false := by simp; omega
  have k4 : (k == 4) = false := by simp; omega
  have k5 : (k == 5) = false := by simp; omega
  have hk1 : ¬ k = 1 := by omega
  have hk2 : ¬ k = 2 := by omega
  have hk3 : ¬ k = 3 := by omega
  have hk4 : ¬ k = 4 := by omega
  have hk5 : ¬ k = 5 := by omega
  clear h hr
  rcases hwhat with ⟨h0, rfl⟩ | ⟨h0, rfl⟩
  all_goals
    have b0 : (wh < 0) ↔ (wh < 0) := Iff.rfl
    go_enter Try.func19, Try.ntmps19
    go_wp2_with fail
    generalize (((w.alloc (.cells #[.slice A D.length cap, .int .i64 cnt, .int .i64 2] 37)).alloc (.cells #[.int .i64 k, .int .i64 N, .int .i64 wh, .int .i64 a0, .int .i64 a1, .int .i64 a2, .int .i64 d0, .int .i64 d1, .int .i64 d2, .int .u64 raw, .bool odd] 43)).alloc (.cells #[.slice none 0 0, .int .i64 0, .int .i64 0] 37)) = w2 at *
    refine (RingDo.word _ D _ B R2.out hl.out hD (Nat.le_trans hB hb2.out.size) cnt hc 1 (by simp) k N wh a0 a1 a2 d0 d1 d2 raw odd hN).mono ?_
    rintro e w2' ⟨rfl, hbw2⟩
    replace F := Lib.hid (F.out.next (ofBelow (S := fun _ => False) hbw2) (fun _ _ x => x))
    replace L2 := Lib.hid (RingHead.LogAt.below L2.out hbw2)
    replace R2 := Lib.hid (R2.out.below hbw2)
    replace hb2 := Lib.hid (hb2.out.trans (hbw2.mono hb2.out.size))
    obtain ⟨⟨x0, x1, x2⟩, _, _, _⟩ := cell3 F.out.arg
    obtain ⟨g0, g1, g2, g3, g4, g5, g6, g7, g8, g9, g10⟩ := cell11 F.out.deed
    clear hbw2
    generalize hwd : wordD D 1 N raw odd = wd at *
    go_wp2_with fail
    refine (RingNew.note L2.out N wd _ hN hw2 hn).mono ?_
    rintro e w3 ⟨rfl, h3, ho3⟩
    have F3 := F.out.next ho3 hlow.out
    have R3 := R2.out.keep ho3 (fun j hj => hap.out j hj)
    obtain ⟨⟨x0, x1, x2⟩, _, _, _⟩ := cell3 F3.arg
    obtain ⟨g0, g1, g2, g3, g4, g5, g6, g7, g8, g9, g10⟩ := cell11 F3.deed
    have h3 := Lib.hid h3
    have R3 := Lib.hid R3
    have F3 := Lib.hid F3
    have hO3 := Lib.hid ((ofBelow (S := Foot p v) hb2.out).trans ho3 (fun _ _ x => x))
    have s3 := hO3.out.size
    have q3 := lt_of_heap F3.out.res
    clear ho3
    go_wp2_with fail
    refine (RingRef.set _ D _ B R3.out hl.out (Nat.le_trans hB s3) cnt hc 1 N wd _ (by simp) hN hw2).mono ?_
    rintro e w5 ⟨s', rfl, h5⟩
    have hlen := setC_length D 1 N wd
    obtain ⟨A5, cap5, hs5, hcap5⟩ := own_any h5.ref.own
    simp only [hlen] at hs5
    subst hs5
    have F5 := F3.out.next (ofBelow (S := fun _ => False) h5.bel) (fun _ _ x => x)
    obtain ⟨⟨s0, s1, s2⟩, q0, q1, q2⟩ := cell3 F5.res
    have hf5 := lt_of_heap F5.res
    have hf6 : ¬ w.heap.size + 1 + 1 = w5.heap.size := by omega
    have hf7 : ¬ w5.heap.size = w.heap.size + 1 + 1 := by omega
    have h5 := Lib.hid h5
    have F5 := Lib.hid F5
    go_wp2
    obtain ⟨z0, z1, z2⟩ := res_of (u0 := (.slice A5 D.length cap5)) (u1 := (.int .i64 (cnt + asks N))) (u2 := .int .i64 2) (o := .int .i64 0) F5.out.res (.cells #[(.slice A5 D.length cap5), (.int .i64 (cnt + asks N)), .int .i64 2] 37)
    refine bodyPost_ret (v := .tuple #[.agg #[(.slice A5 D.length cap5), (.int .i64 (cnt + asks N)), .int .i64 2], .bool (setB C 1 N wd == setB D 1 N wd)]) ?_ rfl ?_
    · generalize ((((w5.setCell ⟨w.heap.size + 1 + 1, 0, none⟩ (.slice A5 D.length cap5)).setCell ⟨w.heap.size + 1 + 1, 1, none⟩ (.int .i64 (cnt + asks N))).setCell ⟨w.heap.size + 1 + 1, 2, none⟩ (.int .i64 2)).alloc (.cells #[(.slice A5 D.length cap5), (.int .i64 (cnt + asks N)), .int .i64 2] 37)) = wz at z0 z1 z2 ⊢
      simp [results, Try.results19, go_sem, z0, z1, z2]
    · refine finish ?_ ?_ ?_ hbw hlow.out hrl.out hap.out h3.out hO3.out (Below.refl _ _) h5.out (by omega) q3 ?_ (only_of _ _ _ _ _)
      · simp [doC, hwd, hk1, hk2, hk3, hk4, hk5]
      · simp [doC, hwd, hk1, hk2, hk3, hk4, hk5]
      · simp [doA, hk1, hk2]
      · exact (fun e => by rw [e]; simp)

end Go.Proofs.Ytllibgjajlgnbab.RingDo
